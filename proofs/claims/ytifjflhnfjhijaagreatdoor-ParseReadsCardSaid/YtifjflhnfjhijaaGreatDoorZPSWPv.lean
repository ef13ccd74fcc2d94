/- What is proved: functions of the program compute what plain statements tell. -/
import Derived.Test.YtifjflhnfjhijaaGreatDoorZPSWE

namespace Go.Sim.YtifjflhnfjhijaaGreatDoor
open Go.RowKit Go.Proofs Go.Proofs.Tryz
set_option maxRecDepth 100000
def qA0 (Q : List ByteArray -> Prop) : Prop :=
 Q ([(ByteArray.mk #[]), (ByteArray.mk #[]), (ByteArray.mk #[]), (ByteArray.mk #[]), (ByteArray.mk #[]), (ByteArray.mk #[]), (ByteArray.mk #[]), (ByteArray.mk #[]), (ByteArray.mk #[]), (ByteArray.mk #[115, 113, 114, 116]), (ByteArray.mk #[101, 120, 112]), (ByteArray.mk #[108, 111, 103]), (ByteArray.mk #[115, 105, 110]), (ByteArray.mk #[99, 111, 115]), (ByteArray.mk #[97, 116, 97, 110])])
theorem qDd {r : List ByteArray} (h : qA0 (fun r' => r' = r)) : q65 r := by
 unfold qA0 at h
 refine intr (L := []) Tryz.func172 Tryz.ntmps172 ?_
 refine sN (pS rfl (dn (AWp.seq (rN ?_))))
 refine AOps.lit q01 (ys := [.v (.string (ByteArray.mk #[])), .v (.string (ByteArray.mk #[])), .v (.string (ByteArray.mk #[])), .v (.string (ByteArray.mk #[])), .v (.string (ByteArray.mk #[])), .v (.string (ByteArray.mk #[])), .v (.string (ByteArray.mk #[])), .v (.string (ByteArray.mk #[])), .v (.string (ByteArray.mk #[])), .v (.string (ByteArray.mk #[115, 113, 114, 116])), .v (.string (ByteArray.mk #[101, 120, 112])), .v (.string (ByteArray.mk #[108, 111, 103])), .v (.string (ByteArray.mk #[115, 105, 110])), .v (.string (ByteArray.mk #[99, 111, 115])), .v (.string (ByteArray.mk #[97, 116, 97, 110]))]) rfl rfl rfl rfl rfl rfl ?_
 refine pS rfl (dn (AWp.ret ?_))
 subst h
 exact ⟨_, rfl, rfl⟩
def q48 (s1 : List ByteArray) (v2 : ByteArray) (Q : Int -> Prop) : Prop :=
 Loop1 (0 : Int) (fun (x33 : Int) next34 =>
 Br (decide (x33 < ((s1.length : Nat) : Int))) (
 At s1 x33 fun x39 =>
 Br (v2.toList == x39.toList) (Q x33) (
 Let (IntKind.i64.wrap (x33 + (1 : Int))) fun x41 =>
 next34 x41)) (
 Q (-1 : Int)))
theorem qA1 {s1 : List ByteArray} {v2 : ByteArray} {r : Int} (h : q48 s1 v2 (fun r' => r' = r)) : q3k s1 v2 r := by
 unfold q48 at h
 refine intr (L := [(0, .dat (.sl 9 1 (List.map eStr s1))), (1, .dat (.v (.string v2)))]) Tryz.func171 Tryz.ntmps171 ?_
 refine sN (pI rfl (dn (AWp.seq (AWp.seq (rN (pS rfl (al (((s1.length : Nat) : Int)) rfl (pI rfl (dn (AWp.block ?_))))))))))
 obtain ⟨I42, x43, hz44, hr45⟩ := h
 refine AWp.loop (I := fun p : Int => mkSt [(0, .dat (.sl 9 1 (List.map eStr s1))), (1, .dat (.v (.string v2))), (7, .dat (.v (.int .i64 ((s1.length : Nat) : Int)))), (8, .dat (.v (.int .i64 p)))] []) (Inv := fun p => I42 p) (μ := fun p => x43 p) (x0 := (0 : Int)) hz44 sl (fun p hp => ?_)
 have h := hr45 p hp
 revert h; clear hp; generalize p = x33; intro h
 refine sN (pW rfl (dn (AWp.seq (cB h (fun h => ?_) (fun h => ?_)))))
 ·refine AWp.skip (AWp.seq (AWp.block (AWp.seq (rN (pI rfl (pI rfl (dn (AWp.seq (rN (pG rfl (pS rfl (pI rfl (kI h (q1g (e := eStr)) rfl rfl rfl rfl rfl rfl rfl fun x39 h => ?_)))))))))))))
  refine pG rfl (pB rfl (dn (cB h (fun h => ?_) (fun h => ?_))))
  ·refine sN (pI rfl (pI rfl (dn (AWp.ret ?_))))
   subst h
   exact ⟨_, rfl, rfl⟩
  refine AWp.skip (rN ?_)
  obtain ⟨x41, ex41, h⟩ := h.get
  refine ai ex41 rfl (pI rfl (dn ?_))
  exact ⟨x41, h.1, h.2, sl⟩
 refine AWp.exit ?_
 refine sN (pI rfl (dn (AWp.ret ?_)))
 subst h
 exact ⟨_, rfl, rfl⟩
end Go.Sim.YtifjflhnfjhijaaGreatDoor

/- What is proved: functions of the program compute what plain statements tell. -/
namespace Go.Sim.YtifjflhnfjhijaaGreatDoor
open Go.RowKit Go.Proofs Go.Proofs.Tryz
set_option maxRecDepth 100000
def q9f (t1 : GTree) (most2 : Int) (Q : Bool -> Prop) : Prop :=
 Br (most2 == (0 : Int)) (Q true) (
 Call (q1h t1.Kids (qBs most2)) fun x5 =>
 Q x5)
theorem qC0 {t1 : GTree} {most2 : Int} {r : Bool} (h : q9f t1 most2 (fun r' => r' = r)) : qAg t1 most2 r := by
 unfold q9f at h
 refine intr (L := [(0, .dat (GTree.out t1)), (1, .dat (.v (.int .i64 most2)))]) Tryz.func10 Tryz.ntmps10 ?_
 refine sN (bx (v := .dat (.st _ _)) ?_)
 refine bx (v := .dat (.v (.int _ _))) ?_
 refine pB rfl (dn (AWp.seq ?_))
 refine AWp.freezebox 3 3 rfl rfl ?_
 refine rN (pI rfl (pB rfl (pB rfl (sB 7 h (fun h => ?_) (fun h => ?_)))))
 ·refine fo 4 rfl (pB rfl (pB rfl (dn (AWp.ret ?_))))
  subst h
  exact ⟨_, rfl, rfl⟩
 refine pP rfl (pS rfl ?_)
 refine AOps.mkfn (ds := [.pd (.v (.int .i64 most2))]) rfl rfl rfl ⟨.inr ⟨_, rfl, rfl⟩, trivial⟩ ?_
 refine kC h rfl ⟨.inl rfl, .inl rfl, trivial⟩ rfl fun x5 h => pB rfl ?_
 refine pB rfl (dn (AWp.ret ?_))
 subst h
 exact ⟨_, rfl, rfl⟩
def qAt (t1 : GTree) (most2 : Int) (Q : Int -> Prop) : Prop :=
 Loop2 (1 : Int) (0 : Int) (fun (n60 : Int) (x61 : Int) next62 =>
 Br (decide (x61 < ((t1.Kids.length : Nat) : Int))) (
 At t1.Kids x61 fun x71 =>
 Br (decide (n60 > most2)) (Q n60) (
 Let (IntKind.i64.wrap (most2 - n60)) fun x73 =>
 Call (q9m x71 x73) fun x74 =>
 Let (IntKind.i64.wrap (n60 + x74)) fun x76 =>
 Let (IntKind.i64.wrap (x61 + (1 : Int))) fun x77 =>
 next62 x76 x77)) (
 Q n60))
theorem qGs {t1 : GTree} {most2 : Int} {r : Int} (h : qAt t1 most2 (fun r' => r' = r)) : q9m t1 most2 r := by
 unfold qAt at h
 refine intr (L := [(0, .dat (GTree.out t1)), (1, .dat (.v (.int .i64 most2)))]) Tryz.func11 Tryz.ntmps11 ?_
 refine sN (bx (v := .dat (.st _ _)) ?_)
 refine pI rfl (dn (AWp.seq (rN (pI rfl (dn (AWp.seq (AWp.seq (rN (pP rfl (pS rfl (al (((t1.Kids.length : Nat) : Int)) rfl (pI rfl (dn (AWp.block ?_))))))))))))))
 obtain ⟨I78, x79, hz80, hr81⟩ := h
 refine AWp.loop (I := fun p : Int × Int => mkSt [(1, .dat (.v (.int .i64 most2))), (5, .dat (.v (.int .i64 p.1))), (9, .dat (.sl 26 9 (List.map GTree.enc t1.Kids))), (10, .dat (.v (.int .i64 ((t1.Kids.length : Nat) : Int)))), (11, .dat (.v (.int .i64 p.2)))] []) (Inv := fun p => I78 p.1 p.2) (μ := fun p => x79 p.1 p.2) (x0 := ⟨(1 : Int), (0 : Int)⟩) hz80 sl (fun p hp => ?_)
 obtain ⟨n60, x61⟩ := p
 have h := hr81 n60 x61 hp
 refine sN (pW rfl (dn (AWp.seq (cB h (fun h => ?_) (fun h => ?_)))))
 ·refine AWp.skip (AWp.seq (AWp.block (AWp.seq (rW (kI h GTree.get rfl rfl rfl rfl rfl rfl rfl fun x71 h => ?_)))))
  refine pT rfl (al0 ?_)
  refine st (v := .dat (.st _ _)) ?_
  refine dn (AWp.seq (AWp.seq (rN (pI rfl (pI rfl (pB rfl (dn (cB h (fun h => ?_) (fun h => ?_)))))))))
  ·refine AWp.exit ?_
   refine sN (pI rfl (pI rfl (dn (AWp.ret ?_))))
   subst h
   exact ⟨_, rfl, rfl⟩
  refine AWp.skip (rN (pI rfl (pT rfl (pI rfl (pI rfl ?_)))))
  obtain ⟨x73, ex73, h⟩ := h.get
  refine ai ex73 rfl (kC h rfl ⟨.inl rfl, .inl rfl, trivial⟩ rfl fun x74 h => ?_)
  obtain ⟨x76, ex76, h⟩ := h.get
  refine ai ex76 rfl (pI rfl (dn (rN ?_)))
  obtain ⟨x77, ex77, h⟩ := h.get
  refine ai ex77 rfl (pI rfl (dn ?_))
  exact ⟨⟨x76, x77⟩, h.1, h.2, sl⟩
 refine AWp.exit ?_
 refine sN (pI rfl (pI rfl (dn (AWp.ret ?_))))
 subst h
 exact ⟨_, rfl, rfl⟩
def q7t (t1 : GTree) (most2 : Int) (Q : Int -> Prop) : Prop :=
 Br (decide (most2 <= (1 : Int))) (Q most2) (
 Loop2 (0 : Int) (0 : Int) (fun (n84 : Int) (x85 : Int) next86 =>
 Br (decide (x85 < ((t1.Kids.length : Nat) : Int))) (
 At t1.Kids x85 fun x99 =>
 Let (IntKind.i64.wrap (most2 - (1 : Int))) fun x101 =>
 Call (q8d x99 x101) fun x102 =>
 q16 (fun j105 =>
 Br (decide (x102 > n84)) (j105 x102) (
 j105 n84)
 ) (fun (n104 : Int) =>
 Let (IntKind.i64.wrap (most2 - (1 : Int))) fun x106 =>
 Br (decide (n104 >= x106)) (Q most2) (
 Let (IntKind.i64.wrap (x85 + (1 : Int))) fun x107 =>
 next86 n104 x107))) (
 Let (IntKind.i64.wrap (n84 + (1 : Int))) fun x110 =>
 Q x110)))
theorem q8w {t1 : GTree} {most2 : Int} {r : Int} (h : q7t t1 most2 (fun r' => r' = r)) : q8d t1 most2 r := by
 unfold q7t at h
 refine intr (L := [(0, .dat (GTree.out t1)), (1, .dat (.v (.int .i64 most2)))]) Tryz.func14 Tryz.ntmps14 ?_
 refine sN (bx (v := .dat (.st _ _)) ?_)
 refine pI rfl (dn (AWp.seq (AWp.seq (rN (pI rfl (pB rfl (dn (cB h (fun h => ?_) (fun h => ?_)))))))))
 ·refine sN (pI rfl (pI rfl (dn (AWp.ret ?_))))
  subst h
  exact ⟨_, rfl, rfl⟩
 refine AWp.skip (AWp.seq (rN (pI rfl (dn (AWp.seq (AWp.seq (rN (pP rfl (pS rfl (al (((t1.Kids.length : Nat) : Int)) rfl (pI rfl (dn (AWp.block ?_)))))))))))))
 obtain ⟨I111, x112, hz113, hr114⟩ := h
 refine AWp.loop (I := fun p : Int × Int => mkSt [(1, .dat (.v (.int .i64 most2))), (5, .dat (.v (.int .i64 p.1))), (13, .dat (.sl 26 9 (List.map GTree.enc t1.Kids))), (14, .dat (.v (.int .i64 ((t1.Kids.length : Nat) : Int)))), (15, .dat (.v (.int .i64 p.2)))] []) (Inv := fun p => I111 p.1 p.2) (μ := fun p => x112 p.1 p.2) (x0 := ⟨(0 : Int), (0 : Int)⟩) hz113 sl (fun p hp => ?_)
 obtain ⟨n84, x85⟩ := p
 have h := hr114 n84 x85 hp
 refine sN (pW rfl (dn (AWp.seq (cB h (fun h => ?_) (fun h => ?_)))))
 ·refine AWp.skip (AWp.seq (AWp.block (AWp.seq (rW (kI h GTree.get rfl rfl rfl rfl rfl rfl rfl fun x99 h => ?_)))))
  refine pT rfl (al0 ?_)
  refine st (v := .dat (.st _ _)) ?_
  refine dn (sN (pT rfl (pI rfl ?_)))
  obtain ⟨x101, ex101, h⟩ := h.get
  refine ai ex101 rfl (kC h rfl ⟨.inl rfl, .inl rfl, trivial⟩ rfl fun x102 h => ?_)
  refine pI rfl (dn (AWp.seq (AWp.seq (rN (pI rfl (pI rfl (pB rfl (dn ?_))))))))
  obtain ⟨J108, h, hk109⟩ := h
  refine AWp.cutK (I := fun p : Int => mkSt [(1, .dat (.v (.int .i64 most2))), (5, .dat (.v (.int .i64 p))), (13, .dat (.sl 26 9 (List.map GTree.enc t1.Kids))), (14, .dat (.v (.int .i64 ((t1.Kids.length : Nat) : Int)))), (15, .dat (.v (.int .i64 x85)))] []) (Inv := fun p : Int => J108 p) ?_ (fun p hp => ?_)
  ·refine cB h (fun h => ?_) (fun h => ?_)
   ·refine rN (pI rfl (pI rfl (dn ?_)))
    exact ⟨x102, h, sl⟩
   refine AWp.skip ?_
   exact ⟨n84, h, sl⟩
  replace h := hk109 p hp
  revert h; clear hp; generalize p = n104; intro h
  refine sN (pI rfl (pI rfl ?_))
  obtain ⟨x106, ex106, h⟩ := h.get
  refine ai ex106 rfl (pB rfl (dn (cB h (fun h => ?_) (fun h => ?_))))
  ·refine sN (pI rfl (pI rfl (dn (AWp.ret ?_))))
   subst h
   exact ⟨_, rfl, rfl⟩
  refine AWp.skip (rN ?_)
  obtain ⟨x107, ex107, h⟩ := h.get
  refine ai ex107 rfl (pI rfl (dn ?_))
  exact ⟨⟨n104, x107⟩, h.1, h.2, sl⟩
 refine AWp.exit ?_
 refine sN (pI rfl ?_)
 obtain ⟨x110, ex110, h⟩ := h.get
 refine ai ex110 rfl (pI rfl (dn (AWp.ret ?_)))
 subst h
 exact ⟨_, rfl, rfl⟩
def qAu (t1 : GTree) (most2 : Int) (Q : Int -> Prop) : Prop :=
 Loop2 (1 : Int) (0 : Int) (fun (n60 : Int) (x61 : Int) next62 =>
 Br (decide (x61 < ((t1.Kids.length : Nat) : Int))) (
 At t1.Kids x61 fun x71 =>
 Br (decide (n60 >= most2)) (Q most2) (
 Let (IntKind.i64.wrap (most2 - n60)) fun x73 =>
 Call (q7h x71 x73) fun x74 =>
 Let (IntKind.i64.wrap (n60 + x74)) fun x76 =>
 Let (IntKind.i64.wrap (x61 + (1 : Int))) fun x77 =>
 next62 x76 x77)) (
 Br (decide (n60 > most2)) (Q most2) (
 Q n60)))
theorem qGt {t1 : GTree} {most2 : Int} {r : Int} (h : qAu t1 most2 (fun r' => r' = r)) : q7h t1 most2 r := by
 unfold qAu at h
 refine intr (L := [(0, .dat (GTree.out t1)), (1, .dat (.v (.int .i64 most2)))]) Tryz.func15 Tryz.ntmps15 ?_
 refine sN (bx (v := .dat (.st _ _)) ?_)
 refine pI rfl (dn (AWp.seq (rN (pI rfl (dn (AWp.seq (AWp.seq (rN (pP rfl (pS rfl (al (((t1.Kids.length : Nat) : Int)) rfl (pI rfl (dn (AWp.block ?_))))))))))))))
 obtain ⟨I78, x79, hz80, hr81⟩ := h
 refine AWp.loop (I := fun p : Int × Int => mkSt [(1, .dat (.v (.int .i64 most2))), (5, .dat (.v (.int .i64 p.1))), (9, .dat (.sl 26 9 (List.map GTree.enc t1.Kids))), (10, .dat (.v (.int .i64 ((t1.Kids.length : Nat) : Int)))), (11, .dat (.v (.int .i64 p.2)))] []) (Inv := fun p => I78 p.1 p.2) (μ := fun p => x79 p.1 p.2) (x0 := ⟨(1 : Int), (0 : Int)⟩) hz80 sl (fun p hp => ?_)
 obtain ⟨n60, x61⟩ := p
 have h := hr81 n60 x61 hp
 refine sN (pW rfl (dn (AWp.seq (cB h (fun h => ?_) (fun h => ?_)))))
 ·refine AWp.skip (AWp.seq (AWp.block (AWp.seq (rW (kI h GTree.get rfl rfl rfl rfl rfl rfl rfl fun x71 h => ?_)))))
  refine pT rfl (al0 ?_)
  refine st (v := .dat (.st _ _)) ?_
  refine dn (AWp.seq (AWp.seq (rN (pI rfl (pI rfl (pB rfl (dn (cB h (fun h => ?_) (fun h => ?_)))))))))
  ·refine sN (pI rfl (pI rfl (dn (AWp.ret ?_))))
   subst h
   exact ⟨_, rfl, rfl⟩
  refine AWp.skip (rN (pI rfl (pT rfl (pI rfl (pI rfl ?_)))))
  obtain ⟨x73, ex73, h⟩ := h.get
  refine ai ex73 rfl (kC h rfl ⟨.inl rfl, .inl rfl, trivial⟩ rfl fun x74 h => ?_)
  obtain ⟨x76, ex76, h⟩ := h.get
  refine ai ex76 rfl (pI rfl (dn (rN ?_)))
  obtain ⟨x77, ex77, h⟩ := h.get
  refine ai ex77 rfl (pI rfl (dn ?_))
  exact ⟨⟨x76, x77⟩, h.1, h.2, sl⟩
 refine AWp.exit ?_
 refine AWp.seq (AWp.seq (rN (pI rfl (pI rfl (pB rfl (dn (cB h (fun h => ?_) (fun h => ?_))))))))
 ·refine sN (pI rfl (pI rfl (dn (AWp.ret ?_))))
  subst h
  exact ⟨_, rfl, rfl⟩
 refine AWp.skip (AWp.seq (rN (pI rfl (pI rfl (dn (AWp.ret ?_))))))
 subst h
 exact ⟨_, rfl, rfl⟩
def q1n (s1 : List GTree) (f2 : DV) (Q : Bool -> Prop) : Prop :=
 Call (q1s s1 f2) fun x3 =>
 Q (decide (x3 >= (0 : Int)))
theorem q6l {s1 : List GTree} {f2 : DV} {r : Bool} (h : q1n s1 f2 (fun r' => r' = r)) : q1h s1 f2 r := by
 unfold q1n at h
 refine intr (L := [(0, .dat (.sl 26 9 (List.map GTree.enc s1))), (1, .dat (f2))]) Tryz.func26 Tryz.ntmps26 ?_
 refine sN (pB rfl (dn (AWp.seq (rN (pS rfl ?_)))))
 refine AOps.mv rfl rfl (.inl rfl) rfl ?_
 refine kC h rfl ⟨.inl rfl, .inl rfl, trivial⟩ rfl fun x3 h => pB rfl ?_
 refine pB rfl (dn (AWp.ret ?_))
 subst h
 exact ⟨_, rfl, rfl⟩
def q9o (k1 : GTree) (x2 : Int) (Q : Bool -> Prop) : Prop :=
 Let (IntKind.i64.wrap (x2 - (1 : Int))) fun x3 =>
 Call (qAg k1 x3) fun x4 =>
 Q x4
theorem qFh {k1 : GTree} {x2 : Int} {r : Bool} (h : q9o k1 x2 (fun r' => r' = r)) : qBq k1 x2 r := by
 unfold q9o at h
 refine intr (L := [(0, .dat (GTree.out k1)), (1, .dat (.pd (.v (.int .i64 x2))))]) Tryz.func27 Tryz.ntmps27 ?_
 refine AWp.unpd 1 rfl ?_
 refine sN (bx (v := .dat (.st _ _)) ?_)
 refine pB rfl (dn (AWp.seq (rN (pT rfl (pI rfl ?_)))))
 obtain ⟨x3, ex3, h⟩ := h.get
 refine ai ex3 rfl (kC h rfl ⟨.inl rfl, .inl rfl, trivial⟩ rfl fun x4 h => ?_)
 refine pB rfl (dn (AWp.ret ?_))
 subst h
 exact ⟨_, rfl, rfl⟩
def q8x (a1 : GRat) (Q : Bool -> Prop) : Prop :=
 Call (q43 a1) fun x5 =>
 Br x5 (
 Br (decide (a1.N >= (0 : Int))) (
 Nz a1.D <|
 Let (Int.tmod (1000000000000000000 : Int) a1.D) fun x7 =>
 Q (x7 == (0 : Int))) (
 Q false)) (
 Q false)
theorem qEp {a1 : GRat} {r : Bool} (h : q8x a1 (fun r' => r' = r)) : q81 a1 r := by
 unfold q8x at h
 refine intr (L := [(0, .dat (GRat.enc a1))]) Tryz.func170 Tryz.ntmps170 ?_
 refine sN (bx (v := .dat (.st _ _)) ?_)
 refine pB rfl (dn (AWp.seq (rN (pT rfl (kC h rfl ⟨.inl rfl, trivial⟩ rfl fun x5 h => ?_)))))
 refine pB rfl (sB 5 h (fun h => ?_) (fun h => ?_))
 ·refine pP rfl (pI rfl (pB rfl (pB rfl (pB rfl (sB 10 h (fun h => ?_) (fun h => ?_))))))
  ·refine pP rfl (pI rfl ?_)
   obtain ⟨hq, h⟩ := h
   obtain ⟨x7, ex7, h⟩ := h.get
   refine AOps.q rfl rfl rfl rfl rfl (qAe hq) ex7 ?_
   refine pB rfl (pB rfl (pB rfl (dn (AWp.ret ?_))))
   subst h
   exact ⟨_, rfl, rfl⟩
  refine fo 4 rfl (pB rfl (pB rfl (dn (AWp.ret ?_))))
  subst h
  exact ⟨_, rfl, rfl⟩
 refine fo 3 rfl (pB rfl (pB rfl (fo 4 rfl (pB rfl (pB rfl (dn (AWp.ret ?_)))))))
 subst h
 exact ⟨_, rfl, rfl⟩
def q1x (s1 : List GTree) (f2 : DV) (Q : Int -> Prop) : Prop :=
 Loop1 (0 : Int) (fun (x45 : Int) next46 =>
 Br (decide (x45 < ((s1.length : Nat) : Int))) (
 At s1 x45 fun x53 =>
 Call (fun x55 : Bool => FVal prog f2 [GTree.out x53] (.v (.bool x55))) fun x55 =>
 Br x55 (Q x45) (
 Let (IntKind.i64.wrap (x45 + (1 : Int))) fun x57 =>
 next46 x57)) (
 Q (-1 : Int)))
theorem q7u {s1 : List GTree} {f2 : DV} {r : Int} (h : q1x s1 f2 (fun r' => r' = r)) : q1s s1 f2 r := by
 unfold q1x at h
 refine intr (L := [(0, .dat (.sl 26 9 (List.map GTree.enc s1))), (1, .dat (f2))]) Tryz.func57 Tryz.ntmps57 ?_
 refine sN (pI rfl (dn (AWp.seq (AWp.seq (rN (pS rfl (al (((s1.length : Nat) : Int)) rfl (pI rfl (dn (AWp.block ?_))))))))))
 obtain ⟨I58, x59, hz60, hr61⟩ := h
 refine AWp.loop (I := fun p : Int => mkSt [(0, .dat (.sl 26 9 (List.map GTree.enc s1))), (1, .dat (f2)), (7, .dat (.v (.int .i64 ((s1.length : Nat) : Int)))), (8, .dat (.v (.int .i64 p)))] []) (Inv := fun p => I58 p) (μ := fun p => x59 p) (x0 := (0 : Int)) hz60 sl (fun p hp => ?_)
 have h := hr61 p hp
 revert h; clear hp; generalize p = x45; intro h
 refine sN (pW rfl (dn (AWp.seq (cB h (fun h => ?_) (fun h => ?_)))))
 ·refine AWp.skip (AWp.seq (AWp.block (AWp.seq (rN (pI rfl (pI rfl (dn (AWp.seq (rN ?_)))))))))
  refine AOps.mv rfl rfl (.inl rfl) rfl ?_
  refine pS rfl (pI rfl (kI h GTree.get rfl rfl rfl rfl rfl rfl rfl fun x53 h => ?_))
  refine pT rfl ?_
  obtain ⟨x55, hc56, h⟩ := h
  refine AOps.callv hc56 rfl rfl rfl rfl ⟨.inl rfl, trivial⟩ ?_
  refine dn (cB h (fun h => ?_) (fun h => ?_))
  ·refine sN (pI rfl (pI rfl (dn (AWp.ret ?_))))
   subst h
   exact ⟨_, rfl, rfl⟩
  refine AWp.skip (rN ?_)
  obtain ⟨x57, ex57, h⟩ := h.get
  refine ai ex57 rfl (pI rfl (dn ?_))
  exact ⟨x57, h.1, h.2, sl⟩
 refine AWp.exit ?_
 refine sN (pI rfl (dn (AWp.ret ?_)))
 subst h
 exact ⟨_, rfl, rfl⟩
end Go.Sim.YtifjflhnfjhijaaGreatDoor
