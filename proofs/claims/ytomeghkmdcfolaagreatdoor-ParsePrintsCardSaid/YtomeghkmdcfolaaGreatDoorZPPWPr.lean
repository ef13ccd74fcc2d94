/- What is proved: functions of the program compute what plain statements tell. -/
import Derived.Test.YtomeghkmdcfolaaGreatDoorZPPWE

namespace Go.Sim.YtomeghkmdcfolaaGreatDoor
open Go.RowKit Go.Proofs Go.Proofs.Tryz
set_option maxRecDepth 100000
def W_parse_Right (t1 : GTree) (Q : Int -> Prop) : Prop :=
 Call (Ev_parse_deep t1 (30 : Int)) fun x12 =>
 Br x12 (Q (132 : Int)) (
 Call (Ev_parse_nodes t1 (4000 : Int)) fun x14 =>
 Br (decide (x14 > (4000 : Int))) (
 Br (decide (x14 > (4000 : Int))) (Q (133 : Int)) (
 Q (0 : Int))) (
 Br (t1.Kind != (30 : Int)) (
 Br (t1.Kind != (30 : Int)) (Q (133 : Int)) (
 Q (0 : Int))) (
 Call (Ev_parse_shaped t1) fun x20 =>
 Br (!x20) (Q (133 : Int)) (
 Q (0 : Int)))))
theorem walk_parse_Right {t1 : GTree} {r : Int} (h : W_parse_Right t1 (fun r' => r' = r)) : Ev_parse_Right t1 r := by
 unfold W_parse_Right at h
 refine intr (L := [(0, .dat (GTree.out t1))]) Tryz.func6 Tryz.ntmps6 ?_
 refine sN (bx (v := .dat (.st _ _)) ?_)
 refine pI rfl (dn (AWp.seq (AWp.block (AWp.seq (rN (pT rfl (kC h rfl ⟨.inl rfl, .inl rfl, trivial⟩ rfl fun x12 h => ?_)))))))
 refine pB rfl (dn (cB h (fun h => ?_) (fun h => ?_)))
 ·refine sN (pI rfl (dn (AWp.ret ?_)))
  subst h
  exact ⟨_, rfl, rfl⟩
 refine AWp.seq (AWp.seq (rN (pT rfl (kC h rfl ⟨.inl rfl, .inl rfl, trivial⟩ rfl fun x14 h => ?_))))
 refine pB rfl (pB rfl (dn (cB h (fun h => ?_) (fun h => ?_))))
 ·refine AWp.skip (cB h (fun h => ?_) (fun h => ?_))
  ·refine sN (pI rfl (dn (AWp.ret ?_)))
   subst h
   exact ⟨_, rfl, rfl⟩
  refine AWp.skip (AWp.seq (rN (pI rfl (dn (AWp.ret ?_)))))
  subst h
  exact ⟨_, rfl, rfl⟩
 refine sN (pP rfl (pI rfl (pB rfl (pB rfl (dn (cB h (fun h => ?_) (fun h => ?_)))))))
 ·refine AWp.skip (cB h (fun h => ?_) (fun h => ?_))
  ·refine sN (pI rfl (dn (AWp.ret ?_)))
   subst h
   exact ⟨_, rfl, rfl⟩
  refine AWp.skip (AWp.seq (rN (pI rfl (dn (AWp.ret ?_)))))
  subst h
  exact ⟨_, rfl, rfl⟩
 refine rN (pT rfl (kC h rfl ⟨.inl rfl, trivial⟩ rfl fun x20 h => ?_))
 refine pB rfl (pB rfl (dn (cB h (fun h => ?_) (fun h => ?_))))
 ·refine sN (pI rfl (dn (AWp.ret ?_)))
  subst h
  exact ⟨_, rfl, rfl⟩
 refine AWp.skip (AWp.seq (rN (pI rfl (dn (AWp.ret ?_)))))
 subst h
 exact ⟨_, rfl, rfl⟩
def W_ref13_Right (t1 : GTree) (Q : Int -> Prop) : Prop :=
 Call (Ev_ref13_Deep t1 (31 : Int)) fun x2 =>
 Br (decide (x2 > (30 : Int))) (Q (132 : Int)) (
 Call (Ev_ref13_Nodes t1 (4001 : Int)) fun x8 =>
 Br (decide (x8 > (4000 : Int))) (Q (133 : Int)) (
 Br (t1.Kind != (30 : Int)) (Q (133 : Int)) (
 Call (Ev_ref13_every t1) fun x10 =>
 Br (!x10) (Q (133 : Int)) (
 Q (0 : Int)))))
theorem walk_ref13_Right {t1 : GTree} {r : Int} (h : W_ref13_Right t1 (fun r' => r' = r)) : Ev_ref13_Right t1 r := by
 unfold W_ref13_Right at h
 refine intr (L := [(0, .dat (GTree.out t1))]) Tryz.func9 Tryz.ntmps9 ?_
 refine sN (bx (v := .dat (.st _ _)) ?_)
 refine pI rfl (dn (AWp.seq (AWp.seq (rN (pT rfl (kC h rfl ⟨.inl rfl, .inl rfl, trivial⟩ rfl fun x2 h => ?_))))))
 refine pB rfl (dn (cB h (fun h => ?_) (fun h => ?_)))
 ·refine sN (pI rfl (dn (AWp.ret ?_)))
  subst h
  exact ⟨_, rfl, rfl⟩
 refine AWp.skip (AWp.seq (AWp.seq (rN (pT rfl (kC h rfl ⟨.inl rfl, .inl rfl, trivial⟩ rfl fun x8 h => ?_)))))
 refine pB rfl (pB rfl (sB 9 h (fun h => ?_) (fun h => ?_)))
 ·refine fo 3 rfl (pB rfl (pB rfl (fo 3 rfl (pB rfl (dn ?_)))))
  refine AWp.condT rfl ?_
  refine sN (pI rfl (dn (AWp.ret ?_)))
  subst h
  exact ⟨_, rfl, rfl⟩
 refine pP rfl (pI rfl (pB rfl (pB rfl (pB rfl (sB 14 h (fun h => ?_) (fun h => ?_))))))
 ·refine fo 3 rfl (pB rfl (dn ?_))
  refine AWp.condT rfl ?_
  refine sN (pI rfl (dn (AWp.ret ?_)))
  subst h
  exact ⟨_, rfl, rfl⟩
 refine pT rfl (kC h rfl ⟨.inl rfl, trivial⟩ rfl fun x10 h => ?_)
 refine pB rfl (pB rfl (dn (cB h (fun h => ?_) (fun h => ?_))))
 ·refine sN (pI rfl (dn (AWp.ret ?_)))
  subst h
  exact ⟨_, rfl, rfl⟩
 refine AWp.skip (AWp.seq (rN (pI rfl (dn (AWp.ret ?_)))))
 subst h
 exact ⟨_, rfl, rfl⟩
def W_parse_deep (t1 : GTree) (most2 : Int) (Q : Bool -> Prop) : Prop :=
 Br (most2 == (0 : Int)) (Q true) (
 Call (Ev_slices_ContainsFunc_api_Tree t1.Kids (Fn_parse_deep_1 most2)) fun x5 =>
 Q x5)
theorem walk_parse_deep {t1 : GTree} {most2 : Int} {r : Bool} (h : W_parse_deep t1 most2 (fun r' => r' = r)) : Ev_parse_deep t1 most2 r := by
 unfold W_parse_deep at h
 refine intr (L := [(0, .dat (GTree.out t1)), (1, .dat (.v (.int .i64 most2)))]) Tryz.func12 Tryz.ntmps12 ?_
 refine sN (bx (v := .dat (.st _ _)) ?_)
 refine bx (v := .dat (.v (.int _ _))) ?_
 refine pB rfl (dn (AWp.seq ?_))
 refine AWp.freezebox 3 3 rfl rfl ?_
 refine rN (pI rfl (pB rfl (pB rfl (sB 7 h (fun h => ?_) (fun h => ?_)))))
 ·refine fo 4 rfl (pB rfl (pB rfl (dn (AWp.ret ?_))))
  subst h
  exact ⟨_, rfl, rfl⟩
 refine pP rfl (pS rfl ?_)
 refine AOps.mkfn (ds := [.pd (.v (.int .i64 most2))]) rfl rfl rfl ⟨.inr ⟨_, rfl, rfl⟩, trivial⟩ ?_
 refine kC h rfl ⟨.inl rfl, .inl rfl, trivial⟩ rfl fun x5 h => pB rfl ?_
 refine pB rfl (dn (AWp.ret ?_))
 subst h
 exact ⟨_, rfl, rfl⟩
def W_parse_nodes (t1 : GTree) (most2 : Int) (Q : Int -> Prop) : Prop :=
 Loop2 (1 : Int) (0 : Int) (fun (n60 : Int) (x61 : Int) next62 =>
 Br (decide (x61 < ((t1.Kids.length : Nat) : Int))) (
 At t1.Kids x61 fun x71 =>
 Br (decide (n60 > most2)) (Q n60) (
 Let (IntKind.i64.wrap (most2 - n60)) fun x73 =>
 Call (Ev_parse_nodes x71 x73) fun x74 =>
 Let (IntKind.i64.wrap (n60 + x74)) fun x76 =>
 Let (IntKind.i64.wrap (x61 + (1 : Int))) fun x77 =>
 next62 x76 x77)) (
 Q n60))
theorem walk_parse_nodes {t1 : GTree} {most2 : Int} {r : Int} (h : W_parse_nodes t1 most2 (fun r' => r' = r)) : Ev_parse_nodes t1 most2 r := by
 unfold W_parse_nodes at h
 refine intr (L := [(0, .dat (GTree.out t1)), (1, .dat (.v (.int .i64 most2)))]) Tryz.func13 Tryz.ntmps13 ?_
 refine sN (bx (v := .dat (.st _ _)) ?_)
 refine pI rfl (dn (AWp.seq (rN (pI rfl (dn (AWp.seq (AWp.seq (rN (pP rfl (pS rfl (al (((t1.Kids.length : Nat) : Int)) rfl (pI rfl (dn (AWp.block ?_))))))))))))))
 obtain ⟨I78, x79, hz80, hr81⟩ := h
 refine AWp.loop (I := fun p : Int × Int => mkSt [(1, .dat (.v (.int .i64 most2))), (5, .dat (.v (.int .i64 p.1))), (9, .dat (.sl 26 9 (List.map GTree.enc t1.Kids))), (10, .dat (.v (.int .i64 ((t1.Kids.length : Nat) : Int)))), (11, .dat (.v (.int .i64 p.2)))] []) (Inv := fun p => I78 p.1 p.2) (μ := fun p => x79 p.1 p.2) (x0 := ⟨(1 : Int), (0 : Int)⟩) hz80 sl (fun p hp => ?_)
 obtain ⟨n60, x61⟩ := p
 have h := hr81 n60 x61 hp
 refine sN (pW rfl (dn (AWp.seq (cB h (fun h => ?_) (fun h => ?_)))))
 ·refine AWp.skip (AWp.seq (AWp.block (AWp.seq (rW (kI h GTree.get rfl rfl rfl rfl rfl rfl rfl fun x71 h => ?_)))))
  refine pT rfl (al0 ?_)
  refine st (v := .dat (.st _ _)) ?_
  refine dn (AWp.seq (AWp.seq (rN (pI rfl (pI rfl (pB rfl (dn (cB h (fun h => ?_) (fun h => ?_)))))))))
  ·refine AWp.exit ?_
   refine sN (pI rfl (pI rfl (dn (AWp.ret ?_))))
   subst h
   exact ⟨_, rfl, rfl⟩
  refine AWp.skip (rN (pI rfl (pT rfl (pI rfl (pI rfl ?_)))))
  obtain ⟨x73, ex73, h⟩ := h.get
  refine ai ex73 rfl (kC h rfl ⟨.inl rfl, .inl rfl, trivial⟩ rfl fun x74 h => ?_)
  obtain ⟨x76, ex76, h⟩ := h.get
  refine ai ex76 rfl (pI rfl (dn (rN ?_)))
  obtain ⟨x77, ex77, h⟩ := h.get
  refine ai ex77 rfl (pI rfl (dn ?_))
  exact ⟨⟨x76, x77⟩, h.1, h.2, sl⟩
 refine AWp.exit ?_
 refine sN (pI rfl (pI rfl (dn (AWp.ret ?_))))
 subst h
 exact ⟨_, rfl, rfl⟩
def W_parse_shaped (t1 : GTree) (Q : Bool -> Prop) : Prop :=
 Call (Ev_parse_shape t1) fun x6 =>
 Br x6 (
 Call (Ev_parse_all t1.Kids (0 : Int) (-1 : Int) Fn_parse_shaped) fun x8 =>
 Q x8) (
 Q false)
theorem walk_parse_shaped {t1 : GTree} {r : Bool} (h : W_parse_shaped t1 (fun r' => r' = r)) : Ev_parse_shaped t1 r := by
 unfold W_parse_shaped at h
 refine intr (L := [(0, .dat (GTree.out t1))]) Tryz.func14 Tryz.ntmps14 ?_
 refine sN (bx (v := .dat (.st _ _)) ?_)
 refine pB rfl (dn (AWp.seq (rN (pT rfl (kC h rfl ⟨.inl rfl, trivial⟩ rfl fun x6 h => ?_)))))
 refine pB rfl (sB 5 h (fun h => ?_) (fun h => ?_))
 ·refine pP rfl (pS rfl (kC h rfl ⟨.inl rfl, .inl rfl, .inl rfl, .inl rfl, trivial⟩ rfl fun x8 h => ?_))
  refine pB rfl (pB rfl (dn (AWp.ret ?_)))
  subst h
  exact ⟨_, rfl, rfl⟩
 refine fo 3 rfl (pB rfl (pB rfl (dn (AWp.ret ?_))))
 subst h
 exact ⟨_, rfl, rfl⟩
def W_ref13_Deep (t1 : GTree) (most2 : Int) (Q : Int -> Prop) : Prop :=
 Br (decide (most2 <= (1 : Int))) (Q most2) (
 Loop2 (0 : Int) (0 : Int) (fun (n84 : Int) (x85 : Int) next86 =>
 Br (decide (x85 < ((t1.Kids.length : Nat) : Int))) (
 At t1.Kids x85 fun x99 =>
 Let (IntKind.i64.wrap (most2 - (1 : Int))) fun x101 =>
 Call (Ev_ref13_Deep x99 x101) fun x102 =>
 Join1 (fun j105 =>
 Br (decide (x102 > n84)) (j105 x102) (
 j105 n84)
 ) (fun (n104 : Int) =>
 Let (IntKind.i64.wrap (most2 - (1 : Int))) fun x106 =>
 Br (decide (n104 >= x106)) (Q most2) (
 Let (IntKind.i64.wrap (x85 + (1 : Int))) fun x107 =>
 next86 n104 x107))) (
 Let (IntKind.i64.wrap (n84 + (1 : Int))) fun x110 =>
 Q x110)))
theorem walk_ref13_Deep {t1 : GTree} {most2 : Int} {r : Int} (h : W_ref13_Deep t1 most2 (fun r' => r' = r)) : Ev_ref13_Deep t1 most2 r := by
 unfold W_ref13_Deep at h
 refine intr (L := [(0, .dat (GTree.out t1)), (1, .dat (.v (.int .i64 most2)))]) Tryz.func27 Tryz.ntmps27 ?_
 refine sN (bx (v := .dat (.st _ _)) ?_)
 refine pI rfl (dn (AWp.seq (AWp.seq (rN (pI rfl (pB rfl (dn (cB h (fun h => ?_) (fun h => ?_)))))))))
 ·refine sN (pI rfl (pI rfl (dn (AWp.ret ?_))))
  subst h
  exact ⟨_, rfl, rfl⟩
 refine AWp.skip (AWp.seq (rN (pI rfl (dn (AWp.seq (AWp.seq (rN (pP rfl (pS rfl (al (((t1.Kids.length : Nat) : Int)) rfl (pI rfl (dn (AWp.block ?_)))))))))))))
 obtain ⟨I111, x112, hz113, hr114⟩ := h
 refine AWp.loop (I := fun p : Int × Int => mkSt [(1, .dat (.v (.int .i64 most2))), (5, .dat (.v (.int .i64 p.1))), (13, .dat (.sl 26 9 (List.map GTree.enc t1.Kids))), (14, .dat (.v (.int .i64 ((t1.Kids.length : Nat) : Int)))), (15, .dat (.v (.int .i64 p.2)))] []) (Inv := fun p => I111 p.1 p.2) (μ := fun p => x112 p.1 p.2) (x0 := ⟨(0 : Int), (0 : Int)⟩) hz113 sl (fun p hp => ?_)
 obtain ⟨n84, x85⟩ := p
 have h := hr114 n84 x85 hp
 refine sN (pW rfl (dn (AWp.seq (cB h (fun h => ?_) (fun h => ?_)))))
 ·refine AWp.skip (AWp.seq (AWp.block (AWp.seq (rW (kI h GTree.get rfl rfl rfl rfl rfl rfl rfl fun x99 h => ?_)))))
  refine pT rfl (al0 ?_)
  refine st (v := .dat (.st _ _)) ?_
  refine dn (sN (pT rfl (pI rfl ?_)))
  obtain ⟨x101, ex101, h⟩ := h.get
  refine ai ex101 rfl (kC h rfl ⟨.inl rfl, .inl rfl, trivial⟩ rfl fun x102 h => ?_)
  refine pI rfl (dn (AWp.seq (AWp.seq (rN (pI rfl (pI rfl (pB rfl (dn ?_))))))))
  obtain ⟨J108, h, hk109⟩ := h
  refine AWp.cutK (I := fun p : Int => mkSt [(1, .dat (.v (.int .i64 most2))), (5, .dat (.v (.int .i64 p))), (13, .dat (.sl 26 9 (List.map GTree.enc t1.Kids))), (14, .dat (.v (.int .i64 ((t1.Kids.length : Nat) : Int)))), (15, .dat (.v (.int .i64 x85)))] []) (Inv := fun p : Int => J108 p) ?_ (fun p hp => ?_)
  ·refine cB h (fun h => ?_) (fun h => ?_)
   ·refine rN (pI rfl (pI rfl (dn ?_)))
    exact ⟨x102, h, sl⟩
   refine AWp.skip ?_
   exact ⟨n84, h, sl⟩
  replace h := hk109 p hp
  revert h; clear hp; generalize p = n104; intro h
  refine sN (pI rfl (pI rfl ?_))
  obtain ⟨x106, ex106, h⟩ := h.get
  refine ai ex106 rfl (pB rfl (dn (cB h (fun h => ?_) (fun h => ?_))))
  ·refine sN (pI rfl (pI rfl (dn (AWp.ret ?_))))
   subst h
   exact ⟨_, rfl, rfl⟩
  refine AWp.skip (rN ?_)
  obtain ⟨x107, ex107, h⟩ := h.get
  refine ai ex107 rfl (pI rfl (dn ?_))
  exact ⟨⟨n104, x107⟩, h.1, h.2, sl⟩
 refine AWp.exit ?_
 refine sN (pI rfl ?_)
 obtain ⟨x110, ex110, h⟩ := h.get
 refine ai ex110 rfl (pI rfl (dn (AWp.ret ?_)))
 subst h
 exact ⟨_, rfl, rfl⟩
def W_ref13_Nodes (t1 : GTree) (most2 : Int) (Q : Int -> Prop) : Prop :=
 Loop2 (1 : Int) (0 : Int) (fun (n60 : Int) (x61 : Int) next62 =>
 Br (decide (x61 < ((t1.Kids.length : Nat) : Int))) (
 At t1.Kids x61 fun x71 =>
 Br (decide (n60 >= most2)) (Q most2) (
 Let (IntKind.i64.wrap (most2 - n60)) fun x73 =>
 Call (Ev_ref13_Nodes x71 x73) fun x74 =>
 Let (IntKind.i64.wrap (n60 + x74)) fun x76 =>
 Let (IntKind.i64.wrap (x61 + (1 : Int))) fun x77 =>
 next62 x76 x77)) (
 Br (decide (n60 > most2)) (Q most2) (
 Q n60)))
theorem walk_ref13_Nodes {t1 : GTree} {most2 : Int} {r : Int} (h : W_ref13_Nodes t1 most2 (fun r' => r' = r)) : Ev_ref13_Nodes t1 most2 r := by
 unfold W_ref13_Nodes at h
 refine intr (L := [(0, .dat (GTree.out t1)), (1, .dat (.v (.int .i64 most2)))]) Tryz.func28 Tryz.ntmps28 ?_
 refine sN (bx (v := .dat (.st _ _)) ?_)
 refine pI rfl (dn (AWp.seq (rN (pI rfl (dn (AWp.seq (AWp.seq (rN (pP rfl (pS rfl (al (((t1.Kids.length : Nat) : Int)) rfl (pI rfl (dn (AWp.block ?_))))))))))))))
 obtain ⟨I78, x79, hz80, hr81⟩ := h
 refine AWp.loop (I := fun p : Int × Int => mkSt [(1, .dat (.v (.int .i64 most2))), (5, .dat (.v (.int .i64 p.1))), (9, .dat (.sl 26 9 (List.map GTree.enc t1.Kids))), (10, .dat (.v (.int .i64 ((t1.Kids.length : Nat) : Int)))), (11, .dat (.v (.int .i64 p.2)))] []) (Inv := fun p => I78 p.1 p.2) (μ := fun p => x79 p.1 p.2) (x0 := ⟨(1 : Int), (0 : Int)⟩) hz80 sl (fun p hp => ?_)
 obtain ⟨n60, x61⟩ := p
 have h := hr81 n60 x61 hp
 refine sN (pW rfl (dn (AWp.seq (cB h (fun h => ?_) (fun h => ?_)))))
 ·refine AWp.skip (AWp.seq (AWp.block (AWp.seq (rW (kI h GTree.get rfl rfl rfl rfl rfl rfl rfl fun x71 h => ?_)))))
  refine pT rfl (al0 ?_)
  refine st (v := .dat (.st _ _)) ?_
  refine dn (AWp.seq (AWp.seq (rN (pI rfl (pI rfl (pB rfl (dn (cB h (fun h => ?_) (fun h => ?_)))))))))
  ·refine sN (pI rfl (pI rfl (dn (AWp.ret ?_))))
   subst h
   exact ⟨_, rfl, rfl⟩
  refine AWp.skip (rN (pI rfl (pT rfl (pI rfl (pI rfl ?_)))))
  obtain ⟨x73, ex73, h⟩ := h.get
  refine ai ex73 rfl (kC h rfl ⟨.inl rfl, .inl rfl, trivial⟩ rfl fun x74 h => ?_)
  obtain ⟨x76, ex76, h⟩ := h.get
  refine ai ex76 rfl (pI rfl (dn (rN ?_)))
  obtain ⟨x77, ex77, h⟩ := h.get
  refine ai ex77 rfl (pI rfl (dn ?_))
  exact ⟨⟨x76, x77⟩, h.1, h.2, sl⟩
 refine AWp.exit ?_
 refine AWp.seq (AWp.seq (rN (pI rfl (pI rfl (pB rfl (dn (cB h (fun h => ?_) (fun h => ?_))))))))
 ·refine sN (pI rfl (pI rfl (dn (AWp.ret ?_))))
  subst h
  exact ⟨_, rfl, rfl⟩
 refine AWp.skip (AWp.seq (rN (pI rfl (pI rfl (dn (AWp.ret ?_))))))
 subst h
 exact ⟨_, rfl, rfl⟩
def W_ref13_every (t1 : GTree) (Q : Bool -> Prop) : Prop :=
 Call (Ev_ref13_one t1) fun x2 =>
 Br (!x2) (Q false) (
 Loop1 (0 : Int) (fun (x46 : Int) next47 =>
 Br (decide (x46 < ((t1.Kids.length : Nat) : Int))) (
 At t1.Kids x46 fun x54 =>
 Call (Ev_ref13_every x54) fun x56 =>
 Br (!x56) (Q false) (
 Let (IntKind.i64.wrap (x46 + (1 : Int))) fun x58 =>
 next47 x58)) (
 Q true)))
theorem walk_ref13_every {t1 : GTree} {r : Bool} (h : W_ref13_every t1 (fun r' => r' = r)) : Ev_ref13_every t1 r := by
 unfold W_ref13_every at h
 refine intr (L := [(0, .dat (GTree.out t1))]) Tryz.func29 Tryz.ntmps29 ?_
 refine sN (bx (v := .dat (.st _ _)) ?_)
 refine pB rfl (dn (AWp.seq (AWp.seq (rN (pT rfl (kC h rfl ⟨.inl rfl, trivial⟩ rfl fun x2 h => ?_))))))
 refine pB rfl (dn (cB h (fun h => ?_) (fun h => ?_)))
 ·refine sN (pB rfl (dn (AWp.ret ?_)))
  subst h
  exact ⟨_, rfl, rfl⟩
 refine AWp.skip (AWp.seq (AWp.seq (rN (pP rfl (pS rfl (al (((t1.Kids.length : Nat) : Int)) rfl (pI rfl (dn (AWp.block ?_)))))))))
 obtain ⟨I59, x60, hz61, hr62⟩ := h
 refine AWp.loop (I := fun p : Int => mkSt [(9, .dat (.sl 26 9 (List.map GTree.enc t1.Kids))), (10, .dat (.v (.int .i64 ((t1.Kids.length : Nat) : Int)))), (11, .dat (.v (.int .i64 p)))] []) (Inv := fun p => I59 p) (μ := fun p => x60 p) (x0 := (0 : Int)) hz61 sl (fun p hp => ?_)
 have h := hr62 p hp
 revert h; clear hp; generalize p = x46; intro h
 refine sN (pW rfl (dn (AWp.seq (cB h (fun h => ?_) (fun h => ?_)))))
 ·refine AWp.skip (AWp.seq (AWp.block (AWp.seq (rW (kI h GTree.get rfl rfl rfl rfl rfl rfl rfl fun x54 h => ?_)))))
  refine pT rfl (al0 ?_)
  refine st (v := .dat (.st _ _)) ?_
  refine dn (sN (pT rfl (kC h rfl ⟨.inl rfl, trivial⟩ rfl fun x56 h => ?_)))
  refine pB rfl (dn (cB h (fun h => ?_) (fun h => ?_)))
  ·refine sN (pB rfl (dn (AWp.ret ?_)))
   subst h
   exact ⟨_, rfl, rfl⟩
  refine AWp.skip (rN ?_)
  obtain ⟨x58, ex58, h⟩ := h.get
  refine ai ex58 rfl (pI rfl (dn ?_))
  exact ⟨x58, h.1, h.2, sl⟩
 refine AWp.exit ?_
 refine sN (pB rfl (dn (AWp.ret ?_)))
 subst h
 exact ⟨_, rfl, rfl⟩
def W_slices_ContainsFunc_api_Tree (s1 : List GTree) (f2 : DV) (Q : Bool -> Prop) : Prop :=
 Call (Ev_slices_IndexFunc_api_Tree s1 f2) fun x3 =>
 Q (decide (x3 >= (0 : Int)))
theorem walk_slices_ContainsFunc_api_Tree {s1 : List GTree} {f2 : DV} {r : Bool} (h : W_slices_ContainsFunc_api_Tree s1 f2 (fun r' => r' = r)) : Ev_slices_ContainsFunc_api_Tree s1 f2 r := by
 unfold W_slices_ContainsFunc_api_Tree at h
 refine intr (L := [(0, .dat (.sl 26 9 (List.map GTree.enc s1))), (1, .dat (f2))]) Tryz.func43 Tryz.ntmps43 ?_
 refine sN (pB rfl (dn (AWp.seq (rN (pS rfl ?_)))))
 refine AOps.mv rfl rfl (.inl rfl) rfl ?_
 refine kC h rfl ⟨.inl rfl, .inl rfl, trivial⟩ rfl fun x3 h => pB rfl ?_
 refine pB rfl (dn (AWp.ret ?_))
 subst h
 exact ⟨_, rfl, rfl⟩
def W_parse_deep_1 (k1 : GTree) (x2 : Int) (Q : Bool -> Prop) : Prop :=
 Let (IntKind.i64.wrap (x2 - (1 : Int))) fun x3 =>
 Call (Ev_parse_deep k1 x3) fun x4 =>
 Q x4
theorem walk_parse_deep_1 {k1 : GTree} {x2 : Int} {r : Bool} (h : W_parse_deep_1 k1 x2 (fun r' => r' = r)) : Ev_parse_deep_1 k1 x2 r := by
 unfold W_parse_deep_1 at h
 refine intr (L := [(0, .dat (GTree.out k1)), (1, .dat (.pd (.v (.int .i64 x2))))]) Tryz.func44 Tryz.ntmps44 ?_
 refine AWp.unpd 1 rfl ?_
 refine sN (bx (v := .dat (.st _ _)) ?_)
 refine pB rfl (dn (AWp.seq (rN (pT rfl (pI rfl ?_)))))
 obtain ⟨x3, ex3, h⟩ := h.get
 refine ai ex3 rfl (kC h rfl ⟨.inl rfl, .inl rfl, trivial⟩ rfl fun x4 h => ?_)
 refine pB rfl (dn (AWp.ret ?_))
 subst h
 exact ⟨_, rfl, rfl⟩
def W_parse_shape (x1 : GTree) (Q : Bool -> Prop) : Prop :=
 Join2 (fun j65 =>
 Br (x1.Kind == (30 : Int)) (
 Call (Ev_parse_kind ([(31 : Int), (32 : Int)])) fun x66 =>
 Call (Ev_parse_all x1.Kids (0 : Int) (-1 : Int) x66) fun x68 =>
 j65 ({ GTree.zero with Kind := x1.Kind, Kids := x1.Kids }) x68) (
 Br (x1.Kind == (31 : Int)) (
 Call (Ev_parse_all x1.Kids (0 : Int) (1 : Int) Fn_parse_dimension) fun x70 =>
 j65 ({ GTree.zero with Kind := x1.Kind, Name := x1.Name, Kids := x1.Kids }) x70) (
 Br (x1.Kind == (32 : Int)) (
 Call (Ev_parse_upto x1.N (1 : Int) (2 : Int)) fun x72 =>
 Br x72 (
 Call (Ev_parse_all x1.Kids (0 : Int) (-1 : Int) Fn_parse_item) fun x74 =>
 j65 ({ GTree.zero with Kind := x1.Kind, Name := x1.Name, N := x1.N, Kids := x1.Kids }) x74) (
 j65 ({ GTree.zero with Kind := x1.Kind, Name := x1.Name, N := x1.N, Kids := x1.Kids }) false)) (
 Br (x1.Kind == (33 : Int)) (
 Call (Ev_parse_kind ([(41 : Int)])) fun x76 =>
 IsFn x76 /\
 Call (Ev_parse_each x1.Kids ([x76, Fn_parse_expression])) fun x78 =>
 j65 ({ GTree.zero with Kind := x1.Kind, Name := x1.Name, Kids := x1.Kids }) x78) (
 Br (x1.Kind == (34 : Int)) (
 Call (Ev_parse_upto x1.N (0 : Int) (1000000 : Int)) fun x81 =>
 Br x81 (
 Call (Ev_parse_kind ([(41 : Int)])) fun x83 =>
 IsFn x83 /\
 Call (Ev_parse_each x1.Kids ([x83])) fun x85 =>
 j65 ({ GTree.zero with Kind := x1.Kind, Name := x1.Name, N := x1.N, Flag := x1.Flag, Kids := x1.Kids }) x85) (
 j65 ({ GTree.zero with Kind := x1.Kind, Name := x1.Name, N := x1.N, Flag := x1.Flag, Kids := x1.Kids }) false)) (
 Br (x1.Kind == (35 : Int)) (
 Call (Ev_parse_upto x1.N (0 : Int) (1000000 : Int)) fun x88 =>
 Br x88 (
 Call (Ev_parse_named x1.Alias) fun x90 =>
 Br x90 (
 Call (Ev_parse_kind ([(36 : Int)])) fun x92 =>
 Call (Ev_parse_all x1.Kids (0 : Int) (-1 : Int) x92) fun x94 =>
 j65 ({ GTree.zero with Kind := x1.Kind, Name := x1.Name, Alias := x1.Alias, N := x1.N, Kids := x1.Kids }) x94) (
 j65 ({ GTree.zero with Kind := x1.Kind, Name := x1.Name, Alias := x1.Alias, N := x1.N, Kids := x1.Kids }) false)) (
 j65 ({ GTree.zero with Kind := x1.Kind, Name := x1.Name, Alias := x1.Alias, N := x1.N, Kids := x1.Kids }) false)) (
 Br (x1.Kind == (36 : Int)) (
 Call (Ev_parse_each x1.Kids ([Fn_parse_expression])) fun x96 =>
 j65 ({ GTree.zero with Kind := x1.Kind, Name := x1.Name, Kids := x1.Kids }) x96) (
 Br (x1.Kind == (37 : Int)) (
 Call (Ev_parse_kind ([(2 : Int), (4 : Int)])) fun x98 =>
 IsFn x98 /\
 Call (Ev_parse_each x1.Kids ([x98, Fn_parse_expression, Fn_parse_expression])) fun x100 =>
 j65 ({ GTree.zero with Kind := x1.Kind, Kids := x1.Kids }) x100) (
 Br (x1.Kind == (38 : Int)) (
 Call (Ev_parse_kind ([(2 : Int)])) fun x103 =>
 Call (Ev_parse_kind ([(2 : Int)])) fun x105 =>
 IsFn x103 /\
 IsFn x105 /\
 Call (Ev_parse_each x1.Kids ([x103, x105])) fun x107 =>
 j65 ({ GTree.zero with Kind := x1.Kind, Kids := x1.Kids }) x107) (
 Join1 (fun j112 =>
 Br (x1.Kind == (39 : Int)) (j112 (x1.Kind == (39 : Int))) (
 Br (x1.Kind == (8 : Int)) (j112 (x1.Kind == (8 : Int))) (
 Br (x1.Kind == (9 : Int)) (j112 (x1.Kind == (9 : Int))) (
 Br (x1.Kind == (10 : Int)) (j112 (x1.Kind == (10 : Int))) (
 j112 (x1.Kind == (11 : Int))))))
 ) (fun (x111 : Bool) =>
 Br x111 (
 Call (Ev_parse_each x1.Kids ([Fn_parse_expression, Fn_parse_expression])) fun x113 =>
 j65 ({ GTree.zero with Kind := x1.Kind, Kids := x1.Kids }) x113) (
 Br (x1.Kind == (40 : Int)) (
 Call (Ev_parse_upto x1.N (0 : Int) (1000000 : Int)) fun x115 =>
 Br x115 (
 Call (Ev_parse_upto x1.M (0 : Int) (1000000 : Int)) fun x117 =>
 Br x117 (
 Call (Ev_parse_all x1.Kids (0 : Int) (-1 : Int) Fn_parse_rule) fun x119 =>
 j65 ({ GTree.zero with Kind := x1.Kind, Name := x1.Name, N := x1.N, M := x1.M, Kids := x1.Kids }) x119) (
 j65 ({ GTree.zero with Kind := x1.Kind, Name := x1.Name, N := x1.N, M := x1.M, Kids := x1.Kids }) false)) (
 j65 ({ GTree.zero with Kind := x1.Kind, Name := x1.Name, N := x1.N, M := x1.M, Kids := x1.Kids }) false)) (
 Br (x1.Kind == (41 : Int)) (
 Call (Ev_parse_all x1.Kids (0 : Int) (1 : Int) Fn_parse_dimension) fun x121 =>
 j65 ({ GTree.zero with Kind := x1.Kind, Kids := x1.Kids }) x121) (
 Call (Ev_parse_low x1 ({ GTree.zero with Kind := x1.Kind, Kids := x1.Kids })) fun x123 =>
 Q x123)))))))))))))
 ) (fun (x63 : GTree) (x64 : Bool) =>
 Br x64 (
 Br (x63.Name.toList == (ByteArray.mk #[]).toList) (
 Call (Ev_parse_same x1 x63) fun x137 =>
 Br x137 (
 Br (!(x63.Name.toList == (ByteArray.mk #[]).toList)) (Q true) (
 Call (Ev_parse_names x1.Kind) fun x139 =>
 Q (!x139))) (
 Q false)) (
 Call (Ev_parse_named x63.Name) fun x141 =>
 Br x141 (
 Call (Ev_parse_same x1 x63) fun x143 =>
 Br x143 (
 Br (!(x63.Name.toList == (ByteArray.mk #[]).toList)) (Q true) (
 Call (Ev_parse_names x1.Kind) fun x145 =>
 Q (!x145))) (
 Q false)) (
 Q false))) (
 Q false))
theorem walk_parse_shape {x1 : GTree} {r : Bool} (h : W_parse_shape x1 (fun r' => r' = r)) : Ev_parse_shape x1 r := by
 unfold W_parse_shape at h
 refine intr (L := [(0, .dat (GTree.out x1))]) Tryz.func45 Tryz.ntmps45 ?_
 refine sN (bx (v := .dat (.st _ _)) ?_)
 refine pB rfl (dn (AWp.seq (rW (pP rfl (pI rfl (pP rfl (pS rfl (pT rfl (al0 ?_)))))))))
 refine st (v := .dat (.st _ _)) ?_
 refine dn (sN (pB rfl (dn (AWp.seq (rN (pP rfl (pS rfl (pS rfl (dn (AWp.seq (AWp.seq (rN (pP rfl (pI rfl (dn ?_)))))))))))))))
 obtain ⟨J147, h, hk148⟩ := h
 refine AWp.cutK (I := fun p : GTree × Bool => mkSt [(1, .pt 1 [] 0), (3, .pt 3 [] 0), (4, .dat (.v (.bool p.2)))] [(1, .box 26 9 (.dat (GTree.out x1))), (3, .box 26 9 (.dat (GTree.out p.1)))]) (Inv := fun p : GTree × Bool => J147 p.1 p.2) ?_ (fun p hp => ?_)
 ·refine AWp.block (AWp.seq (rN (pB rfl (pB rfl (dn (cB h (fun h => ?_) (fun h => ?_)))))))
  ·refine rN (pS rfl ?_)
   refine AOps.lit tabOk (ys := [.v (.int .i64 (31 : Int)), .v (.int .i64 (32 : Int))]) rfl rfl rfl rfl rfl rfl ?_
   refine kC h rfl ⟨.inl rfl, trivial⟩ rfl fun x66 h => kC h rfl ⟨.inl rfl, .inl rfl, .inl rfl, .inl rfl, trivial⟩ rfl fun x68 h => pB rfl ?_
   refine dn ?_
   exact ⟨⟨({ GTree.zero with Kind := x1.Kind, Kids := x1.Kids }), x68⟩, h, sl⟩
  refine sN (pB rfl (pB rfl (dn (cB h (fun h => ?_) (fun h => ?_)))))
  ·refine rE [(1, [1]), (3, [3]), (5, []), (26, [1]), (28, []), (30, [3])] (pP rfl (pG rfl (pS rfl (kC h rfl ⟨.inl rfl, .inl rfl, .inl rfl, .inl rfl, trivial⟩ rfl fun x70 h => ?_))))
   refine pP rfl (st (v := .dat (.v (.string _))) ?_)
   refine pB rfl (dn ?_)
   exact ⟨⟨({ GTree.zero with Kind := x1.Kind, Name := x1.Name, Kids := x1.Kids }), x70⟩, h, sl⟩
  refine sN (pB rfl (pB rfl (dn (cB h (fun h => ?_) (fun h => ?_)))))
  ·refine rE [(1, [1]), (3, [3]), (5, []), (33, [1]), (35, [1]), (37, [1]), (41, []), (44, [3]), (45, [3])] (pP rfl (pG rfl (pP rfl (pI rfl (pP rfl (pI rfl (kC h rfl ⟨.inl rfl, .inl rfl, .inl rfl, trivial⟩ rfl fun x72 h => ?_)))))))
   refine pB rfl (sB 40 h (fun h => ?_) (fun h => ?_))
   ·refine pS rfl (kC h rfl ⟨.inl rfl, .inl rfl, .inl rfl, .inl rfl, trivial⟩ rfl fun x74 h => ?_)
    refine pB rfl (pP rfl (st (v := .dat (.v (.string _))) ?_))
    refine pP rfl (st (v := .dat (.v (.int _ _))) ?_)
    refine pB rfl (dn ?_)
    exact ⟨⟨({ GTree.zero with Kind := x1.Kind, Name := x1.Name, N := x1.N, Kids := x1.Kids }), x74⟩, h, sl⟩
   refine ff rfl (ff rfl (pB rfl (pP rfl (st (v := .dat (.v (.string _))) ?_))))
   refine pP rfl (st (v := .dat (.v (.int _ _))) ?_)
   refine pB rfl (dn ?_)
   exact ⟨⟨({ GTree.zero with Kind := x1.Kind, Name := x1.Name, N := x1.N, Kids := x1.Kids }), false⟩, h, sl⟩
  refine sN (pB rfl (pB rfl (dn (cB h (fun h => ?_) (fun h => ?_)))))
  ·refine rE [(1, [1]), (3, [3]), (5, []), (48, [1]), (50, []), (51, [51]), (53, [53]), (55, [3])] (pP rfl (pG rfl (pS rfl ?_)))
   refine AOps.lit tabOk (ys := [.v (.int .i64 (41 : Int))]) rfl rfl rfl rfl rfl rfl ?_
   refine kC h rfl ⟨.inl rfl, trivial⟩ rfl fun x76 h => ?_
   obtain ⟨hf80, h⟩ := h
   refine AOps.lit tabOk (ys := [x76, Fn_parse_expression]) rfl rfl rfl rfl rfl (by exact (buildS_step (d := x76) rfl rfl hf80 (buildS_step (d := Fn_parse_expression) rfl rfl (by first | exact isFn_v | exact isFn_c) rfl))) ?_
   refine kC h rfl ⟨.inl rfl, .inl rfl, trivial⟩ rfl fun x78 h => pP rfl ?_
   refine st (v := .dat (.v (.string _))) ?_
   refine pB rfl (dn ?_)
   exact ⟨⟨({ GTree.zero with Kind := x1.Kind, Name := x1.Name, Kids := x1.Kids }), x78⟩, h, sl⟩
  refine sN (pB rfl (pB rfl (dn (cB h (fun h => ?_) (fun h => ?_)))))
  ·refine rE [(1, [1]), (3, [3]), (5, []), (58, [1]), (60, [1]), (62, [1]), (64, [1]), (68, []), (69, [69]), (71, [71]), (74, [3]), (75, [3]), (76, [3])] (pP rfl (pG rfl (pP rfl (pI rfl (pP rfl (pB rfl (pP rfl (pI rfl (kC h rfl ⟨.inl rfl, .inl rfl, .inl rfl, trivial⟩ rfl fun x81 h => ?_)))))))))
   refine pB rfl (sB 67 h (fun h => ?_) (fun h => ?_))
   ·refine pS rfl ?_
    refine AOps.lit tabOk (ys := [.v (.int .i64 (41 : Int))]) rfl rfl rfl rfl rfl rfl ?_
    refine kC h rfl ⟨.inl rfl, trivial⟩ rfl fun x83 h => ?_
    obtain ⟨hf87, h⟩ := h
    refine AOps.lit tabOk (ys := [x83]) rfl rfl rfl rfl rfl (by exact (buildS_step (d := x83) rfl rfl hf87 rfl)) ?_
    refine kC h rfl ⟨.inl rfl, .inl rfl, trivial⟩ rfl fun x85 h => pB rfl ?_
    refine pP rfl (st (v := .dat (.v (.string _))) ?_)
    refine pP rfl (st (v := .dat (.v (.int _ _))) ?_)
    refine pP rfl (st (v := .dat (.v (.bool _))) ?_)
    refine pB rfl (dn ?_)
    exact ⟨⟨({ GTree.zero with Kind := x1.Kind, Name := x1.Name, N := x1.N, Flag := x1.Flag, Kids := x1.Kids }), x85⟩, h, sl⟩
   refine fo 5 rfl (pB rfl (pP rfl (st (v := .dat (.v (.string _))) ?_)))
   refine pP rfl (st (v := .dat (.v (.int _ _))) ?_)
   refine pP rfl (st (v := .dat (.v (.bool _))) ?_)
   refine pB rfl (dn ?_)
   exact ⟨⟨({ GTree.zero with Kind := x1.Kind, Name := x1.Name, N := x1.N, Flag := x1.Flag, Kids := x1.Kids }), false⟩, h, sl⟩
  refine sN (pB rfl (pB rfl (dn (cB h (fun h => ?_) (fun h => ?_)))))
  ·refine rE [(1, [1]), (3, [3]), (5, []), (79, [1]), (81, [1]), (83, [1]), (85, [1]), (89, [1]), (94, []), (95, [95]), (99, [3]), (100, [3]), (101, [3])] (pP rfl (pG rfl (pP rfl (pI rfl (pP rfl (pG rfl (pP rfl (pI rfl ?_))))))))
   refine kC h rfl ⟨.inl rfl, .inl rfl, .inl rfl, trivial⟩ rfl fun x88 h => pB rfl ?_
   refine sB 88 h (fun h => ?_) (fun h => ?_)
   ·refine pP rfl (pG rfl (kC h rfl ⟨.inl rfl, trivial⟩ rfl fun x90 h => ?_))
    refine pB rfl (pB rfl (sB 93 h (fun h => ?_) (fun h => ?_)))
    ·refine pS rfl ?_
     refine AOps.lit tabOk (ys := [.v (.int .i64 (36 : Int))]) rfl rfl rfl rfl rfl rfl ?_
     refine kC h rfl ⟨.inl rfl, trivial⟩ rfl fun x92 h => kC h rfl ⟨.inl rfl, .inl rfl, .inl rfl, .inl rfl, trivial⟩ rfl fun x94 h => pB rfl ?_
     refine pP rfl (st (v := .dat (.v (.string _))) ?_)
     refine pP rfl (st (v := .dat (.v (.int _ _))) ?_)
     refine pP rfl (st (v := .dat (.v (.string _))) ?_)
     refine pB rfl (dn ?_)
     exact ⟨⟨({ GTree.zero with Kind := x1.Kind, Name := x1.Name, Alias := x1.Alias, N := x1.N, Kids := x1.Kids }), x94⟩, h, sl⟩
    refine fo 4 rfl (pB rfl (pP rfl (st (v := .dat (.v (.string _))) ?_)))
    refine pP rfl (st (v := .dat (.v (.int _ _))) ?_)
    refine pP rfl (st (v := .dat (.v (.string _))) ?_)
    refine pB rfl (dn ?_)
    exact ⟨⟨({ GTree.zero with Kind := x1.Kind, Name := x1.Name, Alias := x1.Alias, N := x1.N, Kids := x1.Kids }), false⟩, h, sl⟩
   refine fo 3 rfl (pB rfl (pB rfl (fo 4 rfl (pB rfl (pP rfl (st (v := .dat (.v (.string _))) ?_))))))
   refine pP rfl (st (v := .dat (.v (.int _ _))) ?_)
   refine pP rfl (st (v := .dat (.v (.string _))) ?_)
   refine pB rfl (dn ?_)
   exact ⟨⟨({ GTree.zero with Kind := x1.Kind, Name := x1.Name, Alias := x1.Alias, N := x1.N, Kids := x1.Kids }), false⟩, h, sl⟩
  refine sN (pB rfl (pB rfl (dn (cB h (fun h => ?_) (fun h => ?_)))))
  ·refine rE [(1, [1]), (3, [3]), (5, []), (104, [1]), (106, []), (107, [107]), (109, [3])] (pP rfl (pG rfl (pS rfl ?_)))
   refine AOps.lit tabOk (ys := [Fn_parse_expression]) rfl rfl rfl rfl rfl rfl ?_
   refine kC h rfl ⟨.inl rfl, .inl rfl, trivial⟩ rfl fun x96 h => pP rfl ?_
   refine st (v := .dat (.v (.string _))) ?_
   refine pB rfl (dn ?_)
   exact ⟨⟨({ GTree.zero with Kind := x1.Kind, Name := x1.Name, Kids := x1.Kids }), x96⟩, h, sl⟩
  refine sN (pB rfl (pB rfl (dn (cB h (fun h => ?_) (fun h => ?_)))))
  ·refine rN (pS rfl ?_)
   refine AOps.lit tabOk (ys := [.v (.int .i64 (2 : Int)), .v (.int .i64 (4 : Int))]) rfl rfl rfl rfl rfl rfl ?_
   refine kC h rfl ⟨.inl rfl, trivial⟩ rfl fun x98 h => ?_
   obtain ⟨hf102, h⟩ := h
   refine AOps.lit tabOk (ys := [x98, Fn_parse_expression, Fn_parse_expression]) rfl rfl rfl rfl rfl (by exact (buildS_step (d := x98) rfl rfl hf102 (buildS_step (d := Fn_parse_expression) rfl rfl (by first | exact isFn_v | exact isFn_c) (buildS_step (d := Fn_parse_expression) rfl rfl (by first | exact isFn_v | exact isFn_c) rfl)))) ?_
   refine kC h rfl ⟨.inl rfl, .inl rfl, trivial⟩ rfl fun x100 h => pB rfl ?_
   refine dn ?_
   exact ⟨⟨({ GTree.zero with Kind := x1.Kind, Kids := x1.Kids }), x100⟩, h, sl⟩
  refine sN (pB rfl (pB rfl (dn (cB h (fun h => ?_) (fun h => ?_)))))
  ·refine rN (pS rfl ?_)
   refine AOps.lit tabOk (ys := [.v (.int .i64 (2 : Int))]) rfl rfl rfl rfl rfl rfl ?_
   refine kC h rfl ⟨.inl rfl, trivial⟩ rfl fun x103 h => ?_
   refine AOps.lit tabOk (ys := [.v (.int .i64 (2 : Int))]) rfl rfl rfl rfl rfl rfl ?_
   refine kC h rfl ⟨.inl rfl, trivial⟩ rfl fun x105 h => ?_
   obtain ⟨hf110, h⟩ := h
   obtain ⟨hf109, h⟩ := h
   refine AOps.lit tabOk (ys := [x103, x105]) rfl rfl rfl rfl rfl (by exact (buildS_step (d := x103) rfl rfl hf110 (buildS_step (d := x105) rfl rfl hf109 rfl))) ?_
   refine kC h rfl ⟨.inl rfl, .inl rfl, trivial⟩ rfl fun x107 h => pB rfl ?_
   refine dn ?_
   exact ⟨⟨({ GTree.zero with Kind := x1.Kind, Kids := x1.Kids }), x107⟩, h, sl⟩
  refine AWp.seq (AWp.seq (rN (pB rfl (pB rfl (dn ?_)))))
  obtain ⟨J125, h, hk126⟩ := h
  refine AWp.cutK (I := fun p : Bool => mkSt [(1, .pt 1 [] 0), (3, .pt 3 [] 0), (5, .dat (.sl 26 9 (List.map GTree.enc x1.Kids))), (14, .dat (.v (.int .i64 x1.Kind))), (126, .dat (.v (.bool p)))] [(1, .box 26 9 (.dat (GTree.out x1))), (3, .box 26 9 (.dat (GTree.out ({ GTree.zero with Kind := x1.Kind, Kids := x1.Kids }))))]) (Inv := fun p : Bool => J125 p) ?_ (fun p hp => ?_)
  ·refine cB h (fun h => ?_) (fun h => ?_)
   ·refine AWp.skip ?_
    exact ⟨(x1.Kind == (39 : Int)), h, sl⟩
   refine sN (pB rfl (pB rfl (dn (cB h (fun h => ?_) (fun h => ?_)))))
   ·refine AWp.skip ?_
    exact ⟨(x1.Kind == (8 : Int)), h, sl⟩
   refine sN (pB rfl (pB rfl (dn (cB h (fun h => ?_) (fun h => ?_)))))
   ·refine AWp.skip ?_
    exact ⟨(x1.Kind == (9 : Int)), h, sl⟩
   refine sN (pB rfl (pB rfl (dn (cB h (fun h => ?_) (fun h => ?_)))))
   ·refine AWp.skip ?_
    exact ⟨(x1.Kind == (10 : Int)), h, sl⟩
   refine rN (pB rfl (pB rfl (dn ?_)))
   exact ⟨(x1.Kind == (11 : Int)), h, sl⟩
  replace h := hk126 p hp
  revert h; clear hp; generalize p = x111; intro h
  refine cB h (fun h => ?_) (fun h => ?_)
  ·refine rN (pS rfl ?_)
   refine AOps.lit tabOk (ys := [Fn_parse_expression, Fn_parse_expression]) rfl rfl rfl rfl rfl rfl ?_
   refine kC h rfl ⟨.inl rfl, .inl rfl, trivial⟩ rfl fun x113 h => pB rfl ?_
   refine dn ?_
   exact ⟨⟨({ GTree.zero with Kind := x1.Kind, Kids := x1.Kids }), x113⟩, h, sl⟩
  refine sN (pB rfl (pB rfl (dn (cB h (fun h => ?_) (fun h => ?_)))))
  ·refine rE [(1, [1]), (3, [3]), (5, []), (137, [1]), (139, [1]), (141, [1]), (143, [1]), (147, [1]), (152, []), (155, [3]), (156, [3]), (157, [3])] (pP rfl (pG rfl (pP rfl (pI rfl (pP rfl (pI rfl (pP rfl (pI rfl (kC h rfl ⟨.inl rfl, .inl rfl, .inl rfl, trivial⟩ rfl fun x115 h => ?_)))))))))
   refine pB rfl (sB 146 h (fun h => ?_) (fun h => ?_))
   ·refine pP rfl (pI rfl (kC h rfl ⟨.inl rfl, .inl rfl, .inl rfl, trivial⟩ rfl fun x117 h => ?_))
    refine pB rfl (pB rfl (sB 151 h (fun h => ?_) (fun h => ?_)))
    ·refine pS rfl (kC h rfl ⟨.inl rfl, .inl rfl, .inl rfl, .inl rfl, trivial⟩ rfl fun x119 h => ?_)
     refine pB rfl (pP rfl (st (v := .dat (.v (.string _))) ?_))
     refine pP rfl (st (v := .dat (.v (.int _ _))) ?_)
     refine pP rfl (st (v := .dat (.v (.int _ _))) ?_)
     refine pB rfl (dn ?_)
     exact ⟨⟨({ GTree.zero with Kind := x1.Kind, Name := x1.Name, N := x1.N, M := x1.M, Kids := x1.Kids }), x119⟩, h, sl⟩
    refine ff rfl (ff rfl (pB rfl (pP rfl (st (v := .dat (.v (.string _))) ?_))))
    refine pP rfl (st (v := .dat (.v (.int _ _))) ?_)
    refine pP rfl (st (v := .dat (.v (.int _ _))) ?_)
    refine pB rfl (dn ?_)
    exact ⟨⟨({ GTree.zero with Kind := x1.Kind, Name := x1.Name, N := x1.N, M := x1.M, Kids := x1.Kids }), false⟩, h, sl⟩
   refine fo 3 rfl (pB rfl (pB rfl (ff rfl (ff rfl (pB rfl (pP rfl (st (v := .dat (.v (.string _))) ?_)))))))
   refine pP rfl (st (v := .dat (.v (.int _ _))) ?_)
   refine pP rfl (st (v := .dat (.v (.int _ _))) ?_)
   refine pB rfl (dn ?_)
   exact ⟨⟨({ GTree.zero with Kind := x1.Kind, Name := x1.Name, N := x1.N, M := x1.M, Kids := x1.Kids }), false⟩, h, sl⟩
  refine sN (pB rfl (pB rfl (dn (cB h (fun h => ?_) (fun h => ?_)))))
  ·refine rN (pS rfl (kC h rfl ⟨.inl rfl, .inl rfl, .inl rfl, .inl rfl, trivial⟩ rfl fun x121 h => ?_))
   refine pB rfl (dn ?_)
   exact ⟨⟨({ GTree.zero with Kind := x1.Kind, Kids := x1.Kids }), x121⟩, h, sl⟩
  refine sN (pT rfl (pT rfl (kC h rfl ⟨.inl rfl, .inl rfl, trivial⟩ rfl fun x123 h => ?_)))
  refine pB rfl (dn (AWp.ret ?_))
  subst h
  exact ⟨_, rfl, rfl⟩
 obtain ⟨x63, x64⟩ := p
 replace h := hk148 x63 x64 hp
 refine sN (pB rfl (pB rfl (sB 163 h (fun h => ?_) (fun h => ?_))))
 ·refine pP rfl (pG rfl (pB rfl (pB rfl (sB 167 h (fun h => ?_) (fun h => ?_)))))
  ·refine fo 3 rfl (pB rfl (pB rfl (pB rfl (pT rfl (pT rfl (kC h rfl ⟨.inl rfl, .inl rfl, trivial⟩ rfl fun x137 h => ?_))))))
   refine pB rfl (pB rfl (sB 178 h (fun h => ?_) (fun h => ?_)))
   ·refine pP rfl (pG rfl (pB rfl (pB rfl (sB 182 h (fun h => ?_) (fun h => ?_)))))
    ·refine fo 4 rfl (pB rfl (pB rfl (pB rfl (dn (AWp.ret ?_)))))
     subst h
     exact ⟨_, rfl, rfl⟩
    refine pP rfl (pI rfl (kC h rfl ⟨.inl rfl, trivial⟩ rfl fun x139 h => ?_))
    refine pB rfl (pB rfl (pB rfl (pB rfl (dn (AWp.ret ?_)))))
    subst h
    exact ⟨_, rfl, rfl⟩
   refine fo 9 rfl (pB rfl (pB rfl (dn (AWp.ret ?_))))
   subst h
   exact ⟨_, rfl, rfl⟩
  refine pP rfl (pG rfl (kC h rfl ⟨.inl rfl, trivial⟩ rfl fun x141 h => ?_))
  refine pB rfl (pB rfl (pB rfl (sB 173 h (fun h => ?_) (fun h => ?_))))
  ·refine pT rfl (pT rfl (kC h rfl ⟨.inl rfl, .inl rfl, trivial⟩ rfl fun x143 h => ?_))
   refine pB rfl (pB rfl (sB 178 h (fun h => ?_) (fun h => ?_)))
   ·refine pP rfl (pG rfl (pB rfl (pB rfl (sB 182 h (fun h => ?_) (fun h => ?_)))))
    ·refine fo 4 rfl (pB rfl (pB rfl (pB rfl (dn (AWp.ret ?_)))))
     subst h
     exact ⟨_, rfl, rfl⟩
    refine pP rfl (pI rfl (kC h rfl ⟨.inl rfl, trivial⟩ rfl fun x145 h => ?_))
    refine pB rfl (pB rfl (pB rfl (pB rfl (dn (AWp.ret ?_)))))
    subst h
    exact ⟨_, rfl, rfl⟩
   refine fo 9 rfl (pB rfl (pB rfl (dn (AWp.ret ?_))))
   subst h
   exact ⟨_, rfl, rfl⟩
  refine fo 3 rfl (pB rfl (pB rfl (fo 9 rfl (pB rfl (pB rfl (dn (AWp.ret ?_)))))))
  subst h
  exact ⟨_, rfl, rfl⟩
 refine fo 8 rfl (pB rfl (pB rfl (fo 3 rfl (pB rfl (pB rfl (fo 9 rfl (pB rfl (pB rfl (dn (AWp.ret ?_))))))))))
 subst h
 exact ⟨_, rfl, rfl⟩
def W_parse_all (l1 : List GTree) (least2 : Int) (most3 : Int) (is4 : DV) (Q : Bool -> Prop) : Prop :=
 IsFn is4 /\
 Br (decide (((l1.length : Nat) : Int) >= least2)) (
 Br (decide (most3 < (0 : Int))) (
 Call (Ev_slices_ContainsFunc_api_Tree l1 (Fn_parse_all_1 is4)) fun x15 =>
 Q (!x15)) (
 Br (decide (((l1.length : Nat) : Int) <= most3)) (
 Call (Ev_slices_ContainsFunc_api_Tree l1 (Fn_parse_all_1 is4)) fun x18 =>
 Q (!x18)) (
 Q false))) (
 Q false)
theorem walk_parse_all {l1 : List GTree} {least2 : Int} {most3 : Int} {is4 : DV} {r : Bool} (h : W_parse_all l1 least2 most3 is4 (fun r' => r' = r)) : Ev_parse_all l1 least2 most3 is4 r := by
 unfold W_parse_all at h
 refine intr (L := [(0, .dat (.sl 26 9 (List.map GTree.enc l1))), (1, .dat (.v (.int .i64 least2))), (2, .dat (.v (.int .i64 most3))), (3, .dat (is4))]) Tryz.func46 Tryz.ntmps46 ?_
 refine sN ?_
 obtain ⟨hf5, h⟩ := h
 refine AOps.boxfn rfl rfl rfl rfl hf5 rfl ?_
 refine pB rfl (dn (AWp.seq ?_))
 refine AWp.freezebox 7 7 rfl rfl ?_
 refine rN (pS rfl (al (((l1.length : Nat) : Int)) rfl (pI rfl (pB rfl (pB rfl (sB 13 h (fun h => ?_) (fun h => ?_)))))))
 ·refine pI rfl (pB rfl (pB rfl (sB 16 h (fun h => ?_) (fun h => ?_))))
  ·refine fo 4 rfl (pB rfl (pB rfl (pB rfl (pS rfl ?_))))
   refine AOps.mkfn (ds := [.pd (is4)]) rfl rfl rfl ⟨.inr ⟨_, rfl, rfl⟩, trivial⟩ ?_
   refine kC h rfl ⟨.inl rfl, .inl rfl, trivial⟩ rfl fun x15 h => pB rfl ?_
   refine pB rfl (pB rfl (dn (AWp.ret ?_)))
   subst h
   exact ⟨_, rfl, rfl⟩
  refine pS rfl (al (((l1.length : Nat) : Int)) rfl (pI rfl (pB rfl (pB rfl (pB rfl (pB rfl (sB 23 h (fun h => ?_) (fun h => ?_))))))))
  ·refine pS rfl ?_
   refine AOps.mkfn (ds := [.pd (is4)]) rfl rfl rfl ⟨.inr ⟨_, rfl, rfl⟩, trivial⟩ ?_
   refine kC h rfl ⟨.inl rfl, .inl rfl, trivial⟩ rfl fun x18 h => pB rfl ?_
   refine pB rfl (pB rfl (dn (AWp.ret ?_)))
   subst h
   exact ⟨_, rfl, rfl⟩
  refine fo 4 rfl (pB rfl (pB rfl (dn (AWp.ret ?_))))
  subst h
  exact ⟨_, rfl, rfl⟩
 refine fo 8 rfl (pB rfl (pB rfl (fo 4 rfl (pB rfl (pB rfl (dn (AWp.ret ?_)))))))
 subst h
 exact ⟨_, rfl, rfl⟩
def W_parse_kind (l1 : List Int) (Q : DV -> Prop) : Prop :=
 Q (Fn_parse_kind_1 l1)
theorem walk_parse_kind {l1 : List Int} {r : DV} (h : W_parse_kind l1 (fun r' => r' = r)) : Ev_parse_kind l1 r := by
 unfold W_parse_kind at h
 refine intr (L := [(0, .dat (.sl 3 1 (List.map (eInt .i64) l1)))]) Tryz.func79 Tryz.ntmps79 ?_
 refine sN (bx (v := .dat (.sl _ _ _)) ?_)
 refine AOps.mv rfl rfl (.inr rfl) rfl ?_
 refine dn (AWp.seq ?_)
 refine AWp.freezebox 1 1 rfl rfl ?_
 refine rN ?_
 refine AOps.mkfn (ds := [.pd (.sl 3 1 (List.map (eInt .i64) l1))]) rfl rfl rfl ⟨.inr ⟨_, rfl, rfl⟩, trivial⟩ ?_
 refine AOps.mv rfl rfl (.inr rfl) rfl ?_
 subst h; exact dn (AWp.ret ⟨_, rfl, rfl⟩)
def W_parse_dimension (t1 : GTree) (Q : Bool -> Prop) : Prop :=
 Br (decide (t1.Kind >= (20 : Int))) (Q (decide (t1.Kind <= (24 : Int)))) (
 Q false)
theorem walk_parse_dimension {t1 : GTree} {r : Bool} (h : W_parse_dimension t1 (fun r' => r' = r)) : Ev_parse_dimension t1 r := by
 unfold W_parse_dimension at h
 refine intr (L := [(0, .dat (GTree.out t1))]) Tryz.func80 Tryz.ntmps80 ?_
 refine sN (bx (v := .dat (.st _ _)) ?_)
 refine pB rfl (dn (AWp.seq (rN (pP rfl (pI rfl (pB rfl (pB rfl (sB 6 h (fun h => ?_) (fun h => ?_)))))))))
 ·refine pP rfl (pI rfl (pB rfl (pB rfl (pB rfl (dn (AWp.ret ?_))))))
  subst h
  exact ⟨_, rfl, rfl⟩
 refine fo 3 rfl (pB rfl (pB rfl (dn (AWp.ret ?_))))
 subst h
 exact ⟨_, rfl, rfl⟩
def W_parse_upto (n1 : Int) (lo2 : Int) (hi3 : Int) (Q : Bool -> Prop) : Prop :=
 Br (decide (n1 >= lo2)) (Q (decide (n1 <= hi3))) (
 Q false)
theorem walk_parse_upto {n1 : Int} {lo2 : Int} {hi3 : Int} {r : Bool} (h : W_parse_upto n1 lo2 hi3 (fun r' => r' = r)) : Ev_parse_upto n1 lo2 hi3 r := by
 unfold W_parse_upto at h
 refine intr (L := [(0, .dat (.v (.int .i64 n1))), (1, .dat (.v (.int .i64 lo2))), (2, .dat (.v (.int .i64 hi3)))]) Tryz.func81 Tryz.ntmps81 ?_
 refine sN (pB rfl (dn (AWp.seq (rN (pI rfl (pI rfl (pB rfl (pB rfl (sB 10 h (fun h => ?_) (fun h => ?_))))))))))
 ·refine pI rfl (pI rfl (pB rfl (pB rfl (pB rfl (dn (AWp.ret ?_))))))
  subst h
  exact ⟨_, rfl, rfl⟩
 refine fo 3 rfl (pB rfl (pB rfl (dn (AWp.ret ?_))))
 subst h
 exact ⟨_, rfl, rfl⟩
def W_parse_item (t1 : GTree) (Q : Bool -> Prop) : Prop :=
 Br (decide (t1.Kind >= (33 : Int))) (
 Br (decide (t1.Kind <= (35 : Int))) (Q true) (
 Br (t1.Kind == (37 : Int)) (Q true) (
 Call (Ev_parse_rule t1) fun x6 =>
 Q x6))) (
 Br (t1.Kind == (37 : Int)) (Q true) (
 Call (Ev_parse_rule t1) fun x8 =>
 Q x8))
theorem walk_parse_item {t1 : GTree} {r : Bool} (h : W_parse_item t1 (fun r' => r' = r)) : Ev_parse_item t1 r := by
 unfold W_parse_item at h
 refine intr (L := [(0, .dat (GTree.out t1))]) Tryz.func82 Tryz.ntmps82 ?_
 refine sN (bx (v := .dat (.st _ _)) ?_)
 refine pB rfl (dn (AWp.seq (rN (pP rfl (pI rfl (pB rfl (pB rfl (sB 6 h (fun h => ?_) (fun h => ?_)))))))))
 ·refine pP rfl (pI rfl (pB rfl (pB rfl (pB rfl (sB 11 h (fun h => ?_) (fun h => ?_))))))
  ·refine fo 3 rfl (pB rfl (pB rfl (ff rfl (ff rfl (pB rfl (pB rfl (dn (AWp.ret ?_))))))))
   subst h
   exact ⟨_, rfl, rfl⟩
  refine pP rfl (pI rfl (pB rfl (pB rfl (pB rfl (sB 16 h (fun h => ?_) (fun h => ?_))))))
  ·refine ff rfl (ff rfl (pB rfl (pB rfl (dn (AWp.ret ?_)))))
   subst h
   exact ⟨_, rfl, rfl⟩
  refine pT rfl (kC h rfl ⟨.inl rfl, trivial⟩ rfl fun x6 h => ?_)
  refine pB rfl (pB rfl (dn (AWp.ret ?_)))
  subst h
  exact ⟨_, rfl, rfl⟩
 refine fo 3 rfl (pB rfl (pB rfl (pP rfl (pI rfl (pB rfl (pB rfl (pB rfl (sB 16 h (fun h => ?_) (fun h => ?_)))))))))
 ·refine ff rfl (ff rfl (pB rfl (pB rfl (dn (AWp.ret ?_)))))
  subst h
  exact ⟨_, rfl, rfl⟩
 refine pT rfl (kC h rfl ⟨.inl rfl, trivial⟩ rfl fun x8 h => ?_)
 refine pB rfl (pB rfl (dn (AWp.ret ?_)))
 subst h
 exact ⟨_, rfl, rfl⟩
def W_parse_each (l1 : List GTree) (is2 : List DV) (Q : Bool -> Prop) : Prop :=
 Br (((l1.length : Nat) : Int) != ((is2.length : Nat) : Int)) (Q false) (
 Loop1 (0 : Int) (fun (x71 : Int) next72 =>
 Br (decide (x71 < ((is2.length : Nat) : Int))) (
 At is2 x71 fun x83 =>
 IsFn x83 /\
 At l1 x71 fun x87 =>
 Call (fun x89 : Bool => FVal prog x83 [GTree.out x87] (.v (.bool x89))) fun x89 =>
 Br (!x89) (Q false) (
 Let (IntKind.i64.wrap (x71 + (1 : Int))) fun x91 =>
 next72 x91)) (
 Q true)))
theorem walk_parse_each {l1 : List GTree} {is2 : List DV} {r : Bool} (h : W_parse_each l1 is2 (fun r' => r' = r)) : Ev_parse_each l1 is2 r := by
 unfold W_parse_each at h
 refine intr (L := [(0, .dat (.sl 26 9 (List.map GTree.enc l1))), (1, .dat (.sl 30 1 (List.map id is2)))]) Tryz.func83 Tryz.ntmps83 ?_
 refine sN (pB rfl (dn (AWp.seq (AWp.seq (rN (pS rfl (al (((l1.length : Nat) : Int)) rfl (pS rfl (al (((is2.length : Nat) : Int)) rfl (pB rfl (dn (cB h (fun h => ?_) (fun h => ?_)))))))))))))
 ·refine sN (pB rfl (dn (AWp.ret ?_)))
  subst h
  exact ⟨_, rfl, rfl⟩
 refine AWp.skip (AWp.seq (AWp.seq (rN (pS rfl (al (((is2.length : Nat) : Int)) rfl (pI rfl (dn (AWp.block ?_))))))))
 obtain ⟨I92, x93, hz94, hr95⟩ := h
 refine AWp.loop (I := fun p : Int => mkSt [(0, .dat (.sl 26 9 (List.map GTree.enc l1))), (12, .dat (.sl 30 1 (List.map id is2))), (13, .dat (.v (.int .i64 ((is2.length : Nat) : Int)))), (14, .dat (.v (.int .i64 p)))] []) (Inv := fun p => I92 p) (μ := fun p => x93 p) (x0 := (0 : Int)) hz94 sl (fun p hp => ?_)
 have h := hr95 p hp
 revert h; clear hp; generalize p = x71; intro h
 refine sN (pW rfl (dn (AWp.seq (cB h (fun h => ?_) (fun h => ?_)))))
 ·refine AWp.skip (AWp.seq (AWp.block (AWp.seq (rN (pI rfl (kI h map_get rfl rfl rfl rfl rfl rfl rfl fun x83 h => ?_))))))
  obtain ⟨hf85, h⟩ := h
  refine AOps.loadfn tabOk rfl rfl rfl rfl rfl rfl hf85 ?_
  refine pI rfl ?_
  refine AOps.mv rfl rfl (.inr rfl) rfl ?_
  refine dn (sN ?_)
  refine AOps.mv rfl rfl (.inl rfl) rfl ?_
  refine pS rfl (pI rfl (kI h GTree.get rfl rfl rfl rfl rfl rfl rfl fun x87 h => ?_))
  refine pT rfl ?_
  obtain ⟨x89, hc90, h⟩ := h
  refine AOps.callv hc90 rfl rfl rfl rfl ⟨.inl rfl, trivial⟩ ?_
  refine pB rfl (dn (cB h (fun h => ?_) (fun h => ?_)))
  ·refine sN (pB rfl (dn (AWp.ret ?_)))
   subst h
   exact ⟨_, rfl, rfl⟩
  refine AWp.skip (rN ?_)
  obtain ⟨x91, ex91, h⟩ := h.get
  refine ai ex91 rfl (pI rfl (dn ?_))
  exact ⟨x91, h.1, h.2, sl⟩
 refine AWp.exit ?_
 refine sN (pB rfl (dn (AWp.ret ?_)))
 subst h
 exact ⟨_, rfl, rfl⟩
def W_parse_expression (t1 : GTree) (Q : Bool -> Prop) : Prop :=
 Br (decide (t1.Kind >= (1 : Int))) (
 Br (decide (t1.Kind <= (12 : Int))) (Q (t1.Kind != (3 : Int))) (
 Q false)) (
 Q false)
theorem walk_parse_expression {t1 : GTree} {r : Bool} (h : W_parse_expression t1 (fun r' => r' = r)) : Ev_parse_expression t1 r := by
 unfold W_parse_expression at h
 refine intr (L := [(0, .dat (GTree.out t1))]) Tryz.func84 Tryz.ntmps84 ?_
 refine sN (bx (v := .dat (.st _ _)) ?_)
 refine pB rfl (dn (AWp.seq (rN (pP rfl (pI rfl (pB rfl (pB rfl (sB 6 h (fun h => ?_) (fun h => ?_)))))))))
 ·refine pP rfl (pI rfl (pB rfl (pB rfl (pB rfl (sB 11 h (fun h => ?_) (fun h => ?_))))))
  ·refine pP rfl (pI rfl (pB rfl (pB rfl (pB rfl (dn (AWp.ret ?_))))))
   subst h
   exact ⟨_, rfl, rfl⟩
  refine fo 3 rfl (pB rfl (pB rfl (dn (AWp.ret ?_))))
  subst h
  exact ⟨_, rfl, rfl⟩
 refine fo 3 rfl (pB rfl (pB rfl (fo 3 rfl (pB rfl (pB rfl (dn (AWp.ret ?_)))))))
 subst h
 exact ⟨_, rfl, rfl⟩
def W_parse_named (s1 : ByteArray) (Q : Bool -> Prop) : Prop :=
 Call (Ev_lex_Lex s1) fun x2 =>
 Br (x2.2.1 == (0 : Int)) (
 Br (((x2.1.length : Nat) : Int) == (2 : Int)) (
 At x2.1 (0 : Int) fun x13 =>
 Br (x13.Kind == (1 : Int)) (
 At x2.1 (0 : Int) fun x16 =>
 Q (x16.S.toList == s1.toList)) (
 Q false)) (
 Q false)) (
 Q false)
theorem walk_parse_named {s1 : ByteArray} {r : Bool} (h : W_parse_named s1 (fun r' => r' = r)) : Ev_parse_named s1 r := by
 unfold W_parse_named at h
 refine intr (L := [(0, .dat (.v (.string s1)))]) Tryz.func85 Tryz.ntmps85 ?_
 refine sN (pB rfl (dn (AWp.seq (rN (pG rfl (kC h rfl ⟨.inl rfl, trivial⟩ rfl fun x2 h => ?_))))))
 refine pU rfl (pS rfl (pI rfl (pI rfl (pS rfl (pI rfl (pI rfl (dn (AWp.seq (rN (pI rfl (pB rfl (pB rfl (sB 14 h (fun h => ?_) (fun h => ?_))))))))))))))
 ·refine pS rfl (al (((x2.1.length : Nat) : Int)) rfl (pB rfl (pB rfl (pB rfl (sB 19 h (fun h => ?_) (fun h => ?_))))))
  ·refine pS rfl (kI h map_get rfl rfl rfl rfl rfl rfl rfl fun x13 h => ?_)
   refine pX rfl (pI rfl (pB rfl (pB rfl (pB rfl (sB 26 h (fun h => ?_) (fun h => ?_))))))
   ·refine pS rfl (kI h map_get rfl rfl rfl rfl rfl rfl rfl fun x16 h => ?_)
    refine pX rfl (pG rfl (pG rfl (pB rfl (pB rfl (pB rfl (dn (AWp.ret ?_)))))))
    subst h
    exact ⟨_, rfl, rfl⟩
   refine fo 6 rfl (pB rfl (pB rfl (dn (AWp.ret ?_))))
   subst h
   exact ⟨_, rfl, rfl⟩
  refine fo 5 rfl (pB rfl (pB rfl (fo 6 rfl (pB rfl (pB rfl (dn (AWp.ret ?_)))))))
  subst h
  exact ⟨_, rfl, rfl⟩
 refine fo 3 rfl (pB rfl (pB rfl (fo 5 rfl (pB rfl (pB rfl (fo 6 rfl (pB rfl (pB rfl (dn (AWp.ret ?_))))))))))
 subst h
 exact ⟨_, rfl, rfl⟩
def W_parse_rule (t1 : GTree) (Q : Bool -> Prop) : Prop :=
 Br (decide (t1.Kind >= (38 : Int))) (Q (decide (t1.Kind <= (40 : Int)))) (
 Q false)
theorem walk_parse_rule {t1 : GTree} {r : Bool} (h : W_parse_rule t1 (fun r' => r' = r)) : Ev_parse_rule t1 r := by
 unfold W_parse_rule at h
 refine intr (L := [(0, .dat (GTree.out t1))]) Tryz.func86 Tryz.ntmps86 ?_
 refine sN (bx (v := .dat (.st _ _)) ?_)
 refine pB rfl (dn (AWp.seq (rN (pP rfl (pI rfl (pB rfl (pB rfl (sB 6 h (fun h => ?_) (fun h => ?_)))))))))
 ·refine pP rfl (pI rfl (pB rfl (pB rfl (pB rfl (dn (AWp.ret ?_))))))
  subst h
  exact ⟨_, rfl, rfl⟩
 refine fo 3 rfl (pB rfl (pB rfl (dn (AWp.ret ?_))))
 subst h
 exact ⟨_, rfl, rfl⟩
def W_parse_low (x1 : GTree) (x2 : GTree) (Q : Bool -> Prop) : Prop :=
 Join2 (fun j49 =>
 Br (x1.Kind == (1 : Int)) (
 Call (Ev_parse_decimal x1.Num) fun x50 =>
 Br x50 (j49 ({ x2 with Num := x1.Num }) (((x1.Kids.length : Nat) : Int) == (0 : Int))) (
 j49 ({ x2 with Num := x1.Num }) false)) (
 Br (x1.Kind == (2 : Int)) (
 Call (Ev_parse_kind ([(3 : Int)])) fun x53 =>
 Call (Ev_parse_all x1.Kids (1 : Int) (-1 : Int) x53) fun x55 =>
 j49 x2 x55) (
 Br (x1.Kind == (3 : Int)) (
 Call (Ev_parse_named x1.Name) fun x57 =>
 Br x57 (
 Call (Ev_parse_all x1.Kids (0 : Int) (1 : Int) Fn_parse_index) fun x59 =>
 j49 ({ x2 with Name := x1.Name }) x59) (
 j49 ({ x2 with Name := x1.Name }) false)) (
 Br (x1.Kind == (4 : Int)) (
 Call (Ev_parse_kind ([(2 : Int)])) fun x61 =>
 IsFn x61 /\
 Call (Ev_parse_each x1.Kids ([x61])) fun x63 =>
 j49 x2 x63) (
 Join1 (fun j67 =>
 Br (x1.Kind == (5 : Int)) (j67 (x1.Kind == (5 : Int))) (
 j67 (x1.Kind == (20 : Int)))
 ) (fun (x66 : Bool) =>
 Br x66 (j49 x2 (((x1.Kids.length : Nat) : Int) == (0 : Int))) (
 Br (x1.Kind == (6 : Int)) (
 Call (Ev_parse_upto x1.N (9 : Int) (14 : Int)) fun x69 =>
 Br x69 (
 Call (Ev_parse_each x1.Kids ([Fn_parse_expression])) fun x71 =>
 j49 ({ x2 with N := x1.N }) x71) (
 j49 ({ x2 with N := x1.N }) false)) (
 Br (x1.Kind == (7 : Int)) (
 Call (Ev_parse_each x1.Kids ([Fn_parse_expression])) fun x73 =>
 j49 x2 x73) (
 Br (x1.Kind == (12 : Int)) (
 Call (Ev_parse_upto x1.N (-64 : Int) (64 : Int)) fun x75 =>
 Br x75 (
 Call (Ev_parse_each x1.Kids ([Fn_parse_expression])) fun x77 =>
 j49 ({ x2 with N := x1.N }) x77) (
 j49 ({ x2 with N := x1.N }) false)) (
 Br (x1.Kind == (21 : Int)) (
 Call (Ev_parse_named x1.Name) fun x79 =>
 Br x79 (j49 ({ x2 with Name := x1.Name }) (((x1.Kids.length : Nat) : Int) == (0 : Int))) (
 j49 ({ x2 with Name := x1.Name }) false)) (
 Join1 (fun j83 =>
 Br (x1.Kind == (22 : Int)) (j83 (x1.Kind == (22 : Int))) (
 j83 (x1.Kind == (23 : Int)))
 ) (fun (x82 : Bool) =>
 Br x82 (
 Call (Ev_parse_each x1.Kids ([Fn_parse_dimension, Fn_parse_dimension])) fun x84 =>
 j49 x2 x84) (
 Br (x1.Kind == (24 : Int)) (
 Call (Ev_rat_Right x1.Num) fun x86 =>
 Br x86 (
 Br (decide (x1.Num.N >= (-64 : Int))) (
 Br (decide (x1.Num.N <= (64 : Int))) (
 Br (decide (x1.Num.D <= (64 : Int))) (
 Call (Ev_parse_each x1.Kids ([Fn_parse_dimension])) fun x88 =>
 j49 ({ x2 with Num := x1.Num }) x88) (
 j49 ({ x2 with Num := x1.Num }) false)) (
 j49 ({ x2 with Num := x1.Num }) false)) (
 j49 ({ x2 with Num := x1.Num }) false)) (
 j49 ({ x2 with Num := x1.Num }) false)) (
 j49 x2 false)))))))))))))
 ) (fun (x47 : GTree) (x48 : Bool) =>
 Br x48 (
 Call (Ev_parse_same x1 x47) fun x96 =>
 Q x96) (
 Q false))
theorem walk_parse_low {x1 : GTree} {x2 : GTree} {r : Bool} (h : W_parse_low x1 x2 (fun r' => r' = r)) : Ev_parse_low x1 x2 r := by
 unfold W_parse_low at h
 refine intr (L := [(0, .dat (GTree.out x1)), (1, .dat (GTree.out x2))]) Tryz.func87 Tryz.ntmps87 ?_
 refine sN (bx (v := .dat (.st _ _)) ?_)
 refine bx (v := .dat (.st _ _)) ?_
 refine pB rfl (dn (AWp.seq (rN (pB rfl (dn (AWp.seq (rN (pP rfl (pS rfl (pS rfl (dn (AWp.seq (AWp.seq (rN (pP rfl (pI rfl (dn ?_)))))))))))))))))
 obtain ⟨J98, h, hk99⟩ := h
 refine AWp.cutK (I := fun p : GTree × Bool => mkSt [(2, .pt 2 [] 0), (3, .pt 3 [] 0), (5, .dat (.v (.bool p.2)))] [(2, .box 26 9 (.dat (GTree.out x1))), (3, .box 26 9 (.dat (GTree.out p.1)))]) (Inv := fun p : GTree × Bool => J98 p.1 p.2) ?_ (fun p hp => ?_)
 ·refine AWp.block (AWp.seq (rN (pB rfl (pB rfl (dn (cB h (fun h => ?_) (fun h => ?_)))))))
  ·refine rE [(2, [2]), (3, [3]), (6, []), (14, [2]), (16, [2]), (20, []), (24, [3])] (pP rfl (pT rfl (pP rfl (pT rfl (kC h rfl ⟨.inl rfl, trivial⟩ rfl fun x50 h => ?_)))))
   refine pB rfl (sB 19 h (fun h => ?_) (fun h => ?_))
   ·refine pS rfl (al (((x1.Kids.length : Nat) : Int)) rfl (pB rfl (pB rfl (pP rfl (st (v := .dat (.st _ _)) ?_)))))
    refine pB rfl (dn ?_)
    exact ⟨⟨({ x2 with Num := x1.Num }), (((x1.Kids.length : Nat) : Int) == (0 : Int))⟩, h, sl⟩
   refine fo 3 rfl (pB rfl (pP rfl (st (v := .dat (.st _ _)) ?_)))
   refine pB rfl (dn ?_)
   exact ⟨⟨({ x2 with Num := x1.Num }), false⟩, h, sl⟩
  refine sN (pB rfl (pB rfl (dn (cB h (fun h => ?_) (fun h => ?_)))))
  ·refine rN (pS rfl ?_)
   refine AOps.lit tabOk (ys := [.v (.int .i64 (3 : Int))]) rfl rfl rfl rfl rfl rfl ?_
   refine kC h rfl ⟨.inl rfl, trivial⟩ rfl fun x53 h => kC h rfl ⟨.inl rfl, .inl rfl, .inl rfl, .inl rfl, trivial⟩ rfl fun x55 h => pB rfl ?_
   refine dn ?_
   exact ⟨⟨x2, x55⟩, h, sl⟩
  refine sN (pB rfl (pB rfl (dn (cB h (fun h => ?_) (fun h => ?_)))))
  ·refine rE [(2, [2]), (3, [3]), (6, []), (33, [2]), (35, [2]), (39, []), (42, [3])] (pP rfl (pG rfl (pP rfl (pG rfl (kC h rfl ⟨.inl rfl, trivial⟩ rfl fun x57 h => ?_)))))
   refine pB rfl (sB 38 h (fun h => ?_) (fun h => ?_))
   ·refine pS rfl (kC h rfl ⟨.inl rfl, .inl rfl, .inl rfl, .inl rfl, trivial⟩ rfl fun x59 h => ?_)
    refine pB rfl (pP rfl (st (v := .dat (.v (.string _))) ?_))
    refine pB rfl (dn ?_)
    exact ⟨⟨({ x2 with Name := x1.Name }), x59⟩, h, sl⟩
   refine ff rfl (ff rfl (pB rfl (pP rfl (st (v := .dat (.v (.string _))) ?_))))
   refine pB rfl (dn ?_)
   exact ⟨⟨({ x2 with Name := x1.Name }), false⟩, h, sl⟩
  refine sN (pB rfl (pB rfl (dn (cB h (fun h => ?_) (fun h => ?_)))))
  ·refine rN (pS rfl ?_)
   refine AOps.lit tabOk (ys := [.v (.int .i64 (2 : Int))]) rfl rfl rfl rfl rfl rfl ?_
   refine kC h rfl ⟨.inl rfl, trivial⟩ rfl fun x61 h => ?_
   obtain ⟨hf65, h⟩ := h
   refine AOps.lit tabOk (ys := [x61]) rfl rfl rfl rfl rfl (by exact (buildS_step (d := x61) rfl rfl hf65 rfl)) ?_
   refine kC h rfl ⟨.inl rfl, .inl rfl, trivial⟩ rfl fun x63 h => pB rfl ?_
   refine dn ?_
   exact ⟨⟨x2, x63⟩, h, sl⟩
  refine AWp.seq (AWp.seq (rN (pB rfl (pB rfl (dn ?_)))))
  obtain ⟨J92, h, hk93⟩ := h
  refine AWp.cutK (I := fun p : Bool => mkSt [(2, .pt 2 [] 0), (3, .pt 3 [] 0), (5, .dat (.v (.bool false))), (6, .dat (.sl 26 9 (List.map GTree.enc x1.Kids))), (11, .dat (.v (.int .i64 x1.Kind))), (50, .dat (.v (.bool p)))] [(2, .box 26 9 (.dat (GTree.out x1))), (3, .box 26 9 (.dat (GTree.out x2)))]) (Inv := fun p : Bool => J92 p) ?_ (fun p hp => ?_)
  ·refine cB h (fun h => ?_) (fun h => ?_)
   ·refine AWp.skip ?_
    exact ⟨(x1.Kind == (5 : Int)), h, sl⟩
   refine rN (pB rfl (pB rfl (dn ?_)))
   exact ⟨(x1.Kind == (20 : Int)), h, sl⟩
  replace h := hk93 p hp
  revert h; clear hp; generalize p = x66; intro h
  refine cB h (fun h => ?_) (fun h => ?_)
  ·refine rN (pS rfl (al (((x1.Kids.length : Nat) : Int)) rfl (pB rfl (pB rfl (dn ?_)))))
   exact ⟨⟨x2, (((x1.Kids.length : Nat) : Int) == (0 : Int))⟩, h, sl⟩
  refine sN (pB rfl (pB rfl (dn (cB h (fun h => ?_) (fun h => ?_)))))
  ·refine rE [(2, [2]), (3, [3]), (6, []), (58, [2]), (60, [2]), (64, []), (65, [65]), (68, [3])] (pP rfl (pI rfl (pP rfl (pI rfl (kC h rfl ⟨.inl rfl, .inl rfl, .inl rfl, trivial⟩ rfl fun x69 h => ?_)))))
   refine pB rfl (sB 63 h (fun h => ?_) (fun h => ?_))
   ·refine pS rfl ?_
    refine AOps.lit tabOk (ys := [Fn_parse_expression]) rfl rfl rfl rfl rfl rfl ?_
    refine kC h rfl ⟨.inl rfl, .inl rfl, trivial⟩ rfl fun x71 h => pB rfl ?_
    refine pP rfl (st (v := .dat (.v (.int _ _))) ?_)
    refine pB rfl (dn ?_)
    exact ⟨⟨({ x2 with N := x1.N }), x71⟩, h, sl⟩
   refine fo 3 rfl (pB rfl (pP rfl (st (v := .dat (.v (.int _ _))) ?_)))
   refine pB rfl (dn ?_)
   exact ⟨⟨({ x2 with N := x1.N }), false⟩, h, sl⟩
  refine sN (pB rfl (pB rfl (dn (cB h (fun h => ?_) (fun h => ?_)))))
  ·refine rN (pS rfl ?_)
   refine AOps.lit tabOk (ys := [Fn_parse_expression]) rfl rfl rfl rfl rfl rfl ?_
   refine kC h rfl ⟨.inl rfl, .inl rfl, trivial⟩ rfl fun x73 h => pB rfl ?_
   refine dn ?_
   exact ⟨⟨x2, x73⟩, h, sl⟩
  refine sN (pB rfl (pB rfl (dn (cB h (fun h => ?_) (fun h => ?_)))))
  ·refine rE [(2, [2]), (3, [3]), (6, []), (76, [2]), (78, [2]), (82, []), (83, [83]), (86, [3])] (pP rfl (pI rfl (pP rfl (pI rfl (kC h rfl ⟨.inl rfl, .inl rfl, .inl rfl, trivial⟩ rfl fun x75 h => ?_)))))
   refine pB rfl (sB 81 h (fun h => ?_) (fun h => ?_))
   ·refine pS rfl ?_
    refine AOps.lit tabOk (ys := [Fn_parse_expression]) rfl rfl rfl rfl rfl rfl ?_
    refine kC h rfl ⟨.inl rfl, .inl rfl, trivial⟩ rfl fun x77 h => pB rfl ?_
    refine pP rfl (st (v := .dat (.v (.int _ _))) ?_)
    refine pB rfl (dn ?_)
    exact ⟨⟨({ x2 with N := x1.N }), x77⟩, h, sl⟩
   refine fo 3 rfl (pB rfl (pP rfl (st (v := .dat (.v (.int _ _))) ?_)))
   refine pB rfl (dn ?_)
   exact ⟨⟨({ x2 with N := x1.N }), false⟩, h, sl⟩
  refine sN (pB rfl (pB rfl (dn (cB h (fun h => ?_) (fun h => ?_)))))
  ·refine rE [(2, [2]), (3, [3]), (6, []), (89, [2]), (91, [2]), (95, []), (99, [3])] (pP rfl (pG rfl (pP rfl (pG rfl (kC h rfl ⟨.inl rfl, trivial⟩ rfl fun x79 h => ?_)))))
   refine pB rfl (sB 94 h (fun h => ?_) (fun h => ?_))
   ·refine pS rfl (al (((x1.Kids.length : Nat) : Int)) rfl (pB rfl (pB rfl (pP rfl (st (v := .dat (.v (.string _))) ?_)))))
    refine pB rfl (dn ?_)
    exact ⟨⟨({ x2 with Name := x1.Name }), (((x1.Kids.length : Nat) : Int) == (0 : Int))⟩, h, sl⟩
   refine fo 3 rfl (pB rfl (pP rfl (st (v := .dat (.v (.string _))) ?_)))
   refine pB rfl (dn ?_)
   exact ⟨⟨({ x2 with Name := x1.Name }), false⟩, h, sl⟩
  refine AWp.seq (AWp.seq (rN (pB rfl (pB rfl (dn ?_)))))
  obtain ⟨J90, h, hk91⟩ := h
  refine AWp.cutK (I := fun p : Bool => mkSt [(2, .pt 2 [] 0), (3, .pt 3 [] 0), (5, .dat (.v (.bool false))), (6, .dat (.sl 26 9 (List.map GTree.enc x1.Kids))), (11, .dat (.v (.int .i64 x1.Kind))), (100, .dat (.v (.bool p)))] [(2, .box 26 9 (.dat (GTree.out x1))), (3, .box 26 9 (.dat (GTree.out x2)))]) (Inv := fun p : Bool => J90 p) ?_ (fun p hp => ?_)
  ·refine cB h (fun h => ?_) (fun h => ?_)
   ·refine AWp.skip ?_
    exact ⟨(x1.Kind == (22 : Int)), h, sl⟩
   refine rN (pB rfl (pB rfl (dn ?_)))
   exact ⟨(x1.Kind == (23 : Int)), h, sl⟩
  replace h := hk91 p hp
  revert h; clear hp; generalize p = x82; intro h
  refine cB h (fun h => ?_) (fun h => ?_)
  ·refine rN (pS rfl ?_)
   refine AOps.lit tabOk (ys := [Fn_parse_dimension, Fn_parse_dimension]) rfl rfl rfl rfl rfl rfl ?_
   refine kC h rfl ⟨.inl rfl, .inl rfl, trivial⟩ rfl fun x84 h => pB rfl ?_
   refine dn ?_
   exact ⟨⟨x2, x84⟩, h, sl⟩
  refine sN (pB rfl (pB rfl (dn (cB h (fun h => ?_) (fun h => ?_)))))
  ·refine sW (pP rfl (pT rfl (al0 ?_)))
   refine st (v := .dat (.st _ _)) ?_
   refine dn (rE [(3, [3]), (6, []), (7, [7]), (114, [7]), (119, [7]), (124, [7]), (129, []), (130, [130]), (133, [3])] (pT rfl (pT rfl (kC h rfl ⟨.inl rfl, trivial⟩ rfl fun x86 h => ?_))))
   refine pB rfl (sB 113 h (fun h => ?_) (fun h => ?_))
   ·refine pP rfl (pI rfl (pB rfl (pB rfl (pB rfl (sB 118 h (fun h => ?_) (fun h => ?_))))))
    ·refine pP rfl (pI rfl (pB rfl (pB rfl (pB rfl (sB 123 h (fun h => ?_) (fun h => ?_))))))
     ·refine pP rfl (pI rfl (pB rfl (pB rfl (pB rfl (sB 128 h (fun h => ?_) (fun h => ?_))))))
      ·refine pS rfl ?_
       refine AOps.lit tabOk (ys := [Fn_parse_dimension]) rfl rfl rfl rfl rfl rfl ?_
       refine kC h rfl ⟨.inl rfl, .inl rfl, trivial⟩ rfl fun x88 h => pB rfl ?_
       refine pP rfl (st (v := .dat (.st _ _)) ?_)
       refine pB rfl (dn ?_)
       exact ⟨⟨({ x2 with Num := x1.Num }), x88⟩, h, sl⟩
      refine fo 3 rfl (pB rfl (pP rfl (st (v := .dat (.st _ _)) ?_)))
      refine pB rfl (dn ?_)
      exact ⟨⟨({ x2 with Num := x1.Num }), false⟩, h, sl⟩
     refine fo 3 rfl (pB rfl (pB rfl (fo 3 rfl (pB rfl (pP rfl (st (v := .dat (.st _ _)) ?_))))))
     refine pB rfl (dn ?_)
     exact ⟨⟨({ x2 with Num := x1.Num }), false⟩, h, sl⟩
    refine fo 3 rfl (pB rfl (pB rfl (fo 3 rfl (pB rfl (pB rfl (fo 3 rfl (pB rfl (pP rfl (st (v := .dat (.st _ _)) ?_)))))))))
    refine pB rfl (dn ?_)
    exact ⟨⟨({ x2 with Num := x1.Num }), false⟩, h, sl⟩
   refine fo 3 rfl (pB rfl (pB rfl (fo 3 rfl (pB rfl (pB rfl (fo 3 rfl (pB rfl (pB rfl (fo 3 rfl (pB rfl (pP rfl (st (v := .dat (.st _ _)) ?_))))))))))))
   refine pB rfl (dn ?_)
   exact ⟨⟨({ x2 with Num := x1.Num }), false⟩, h, sl⟩
  refine AWp.skip ?_
  exact ⟨⟨x2, false⟩, h, sl⟩
 obtain ⟨x47, x48⟩ := p
 replace h := hk99 x47 x48 hp
 refine sN (pB rfl (pB rfl (sB 135 h (fun h => ?_) (fun h => ?_))))
 ·refine pT rfl (pT rfl (kC h rfl ⟨.inl rfl, .inl rfl, trivial⟩ rfl fun x96 h => ?_))
  refine pB rfl (pB rfl (dn (AWp.ret ?_)))
  subst h
  exact ⟨_, rfl, rfl⟩
 refine fo 3 rfl (pB rfl (pB rfl (dn (AWp.ret ?_))))
 subst h
 exact ⟨_, rfl, rfl⟩
def W_parse_same (a1 : GTree) (b2 : GTree) (Q : Bool -> Prop) : Prop :=
 Br (a1.Kind == b2.Kind) (
 Br (a1.Name.toList == b2.Name.toList) (
 Br (a1.Alias.toList == b2.Alias.toList) (
 Br (a1.N == b2.N) (
 Br (a1.M == b2.M) (
 Br (a1.Flag == b2.Flag) (Q (GRat.beq a1.Num b2.Num)) (
 Q false)) (
 Q false)) (
 Q false)) (
 Q false)) (
 Q false)) (
 Q false)
theorem walk_parse_same {a1 : GTree} {b2 : GTree} {r : Bool} (h : W_parse_same a1 b2 (fun r' => r' = r)) : Ev_parse_same a1 b2 r := by
 unfold W_parse_same at h
 refine intr (L := [(0, .dat (GTree.out a1)), (1, .dat (GTree.out b2))]) Tryz.func48 Tryz.ntmps48 ?_
 refine sN (bx (v := .dat (.st _ _)) ?_)
 refine bx (v := .dat (.st _ _)) ?_
 refine pB rfl (dn (AWp.seq (rN (pP rfl (pI rfl (pP rfl (pI rfl (pB rfl (pB rfl (sB 10 h (fun h => ?_) (fun h => ?_)))))))))))
 ·refine pP rfl (pG rfl (pP rfl (pG rfl (pB rfl (pB rfl (pB rfl (sB 17 h (fun h => ?_) (fun h => ?_))))))))
  ·refine pP rfl (pG rfl (pP rfl (pG rfl (pB rfl (pB rfl (pB rfl (sB 24 h (fun h => ?_) (fun h => ?_))))))))
   ·refine pP rfl (pI rfl (pP rfl (pI rfl (pB rfl (pB rfl (pB rfl (sB 31 h (fun h => ?_) (fun h => ?_))))))))
    ·refine pP rfl (pI rfl (pP rfl (pI rfl (pB rfl (pB rfl (pB rfl (sB 38 h (fun h => ?_) (fun h => ?_))))))))
     ·refine pP rfl (pB rfl (pP rfl (pB rfl (pB rfl (pB rfl (pB rfl (sB 45 h (fun h => ?_) (fun h => ?_))))))))
      ·refine pP rfl (pT rfl (pP rfl (pT rfl ?_)))
       refine AOps.eqs rfl rfl rfl rfl rfl rfl rfl (by decide +kernel) (GRat.eqok23 _ a1.Num b2.Num) ?_
       refine pB rfl (pB rfl (dn (AWp.ret ?_)))
       subst h
       exact ⟨_, rfl, rfl⟩
      refine fo 5 rfl (pB rfl (pB rfl (dn (AWp.ret ?_))))
      subst h
      exact ⟨_, rfl, rfl⟩
     refine fo 5 rfl (pB rfl (pB rfl (fo 5 rfl (pB rfl (pB rfl (dn (AWp.ret ?_)))))))
     subst h
     exact ⟨_, rfl, rfl⟩
    refine fo 5 rfl (pB rfl (pB rfl (fo 5 rfl (pB rfl (pB rfl (fo 5 rfl (pB rfl (pB rfl (dn (AWp.ret ?_))))))))))
    subst h
    exact ⟨_, rfl, rfl⟩
   refine fo 5 rfl (pB rfl (pB rfl (fo 5 rfl (pB rfl (pB rfl (fo 5 rfl (pB rfl (pB rfl (fo 5 rfl (pB rfl (pB rfl (dn (AWp.ret ?_)))))))))))))
   subst h
   exact ⟨_, rfl, rfl⟩
  refine fo 5 rfl (pB rfl (pB rfl (fo 5 rfl (pB rfl (pB rfl (fo 5 rfl (pB rfl (pB rfl (fo 5 rfl (pB rfl (pB rfl (fo 3 rfl ?_))))))))))))
  refine ff rfl (ff rfl (pB rfl (pB rfl (dn (AWp.ret ?_)))))
  subst h
  exact ⟨_, rfl, rfl⟩
 refine fo 5 rfl (pB rfl (pB rfl (fo 5 rfl (pB rfl (pB rfl (fo 5 rfl (pB rfl (pB rfl (fo 5 rfl (pB rfl (pB rfl (fo 3 rfl ?_))))))))))))
 refine ff rfl (ff rfl (pB rfl (pB rfl (fo 5 rfl (pB rfl (pB rfl (dn (AWp.ret ?_))))))))
 subst h
 exact ⟨_, rfl, rfl⟩
def W_parse_names (k1 : Int) (Q : Bool -> Prop) : Prop :=
 Call (Ev_slices_Contains_int ([(31 : Int), (32 : Int), (33 : Int), (34 : Int), (35 : Int), (36 : Int), (40 : Int), (3 : Int), (21 : Int)]) k1) fun x2 =>
 Q x2
theorem walk_parse_names {k1 : Int} {r : Bool} (h : W_parse_names k1 (fun r' => r' = r)) : Ev_parse_names k1 r := by
 unfold W_parse_names at h
 refine intr (L := [(0, .dat (.v (.int .i64 k1)))]) Tryz.func88 Tryz.ntmps88 ?_
 refine sN (pB rfl (dn (AWp.seq (rN ?_))))
 refine AOps.lit tabOk (ys := [.v (.int .i64 (31 : Int)), .v (.int .i64 (32 : Int)), .v (.int .i64 (33 : Int)), .v (.int .i64 (34 : Int)), .v (.int .i64 (35 : Int)), .v (.int .i64 (36 : Int)), .v (.int .i64 (40 : Int)), .v (.int .i64 (3 : Int)), .v (.int .i64 (21 : Int))]) rfl rfl rfl rfl rfl rfl ?_
 refine pI rfl (kC h rfl ⟨.inl rfl, .inl rfl, trivial⟩ rfl fun x2 h => ?_)
 refine pB rfl (dn (AWp.ret ?_))
 subst h
 exact ⟨_, rfl, rfl⟩
def W_parse_all_1 (t1 : GTree) (x2 : DV) (Q : Bool -> Prop) : Prop :=
 IsFn x2 /\
 Call (fun x4 : Bool => FVal prog x2 [GTree.out t1] (.v (.bool x4))) fun x4 =>
 Q (!x4)
theorem walk_parse_all_1 {t1 : GTree} {x2 : DV} {r : Bool} (h : W_parse_all_1 t1 x2 (fun r' => r' = r)) : Ev_parse_all_1 t1 x2 r := by
 unfold W_parse_all_1 at h
 refine intr (L := [(0, .dat (GTree.out t1)), (1, .dat (.pd (x2)))]) Tryz.func89 Tryz.ntmps89 ?_
 refine AWp.unpd 1 rfl ?_
 refine sN (bx (v := .dat (.st _ _)) ?_)
 refine pB rfl (dn (AWp.seq (rN ?_)))
 obtain ⟨hf3, h⟩ := h
 refine AOps.loadfn tabOk rfl rfl rfl rfl rfl rfl hf3 ?_
 refine pT rfl ?_
 obtain ⟨x4, hc5, h⟩ := h
 refine AOps.callv hc5 rfl rfl rfl rfl ⟨.inl rfl, trivial⟩ ?_
 refine pB rfl (pB rfl (dn (AWp.ret ?_)))
 subst h
 exact ⟨_, rfl, rfl⟩
def W_parse_kind_1 (t1 : GTree) (x2 : List Int) (Q : Bool -> Prop) : Prop :=
 Call (Ev_slices_Contains_int x2 t1.Kind) fun x3 =>
 Q x3
theorem walk_parse_kind_1 {t1 : GTree} {x2 : List Int} {r : Bool} (h : W_parse_kind_1 t1 x2 (fun r' => r' = r)) : Ev_parse_kind_1 t1 x2 r := by
 unfold W_parse_kind_1 at h
 refine intr (L := [(0, .dat (GTree.out t1)), (1, .dat (.pd (.sl 3 1 (List.map (eInt .i64) x2))))]) Tryz.func116 Tryz.ntmps116 ?_
 refine AWp.unpd 1 rfl ?_
 refine sN (bx (v := .dat (.st _ _)) ?_)
 refine pB rfl (dn (AWp.seq (rN (pS rfl (pP rfl (pI rfl (kC h rfl ⟨.inl rfl, .inl rfl, trivial⟩ rfl fun x3 h => ?_)))))))
 refine pB rfl (dn (AWp.ret ?_))
 subst h
 exact ⟨_, rfl, rfl⟩
def W_slices_Contains_int (s1 : List Int) (v2 : Int) (Q : Bool -> Prop) : Prop :=
 Call (Ev_slices_Index_int s1 v2) fun x3 =>
 Q (decide (x3 >= (0 : Int)))
theorem walk_slices_Contains_int {s1 : List Int} {v2 : Int} {r : Bool} (h : W_slices_Contains_int s1 v2 (fun r' => r' = r)) : Ev_slices_Contains_int s1 v2 r := by
 unfold W_slices_Contains_int at h
 refine intr (L := [(0, .dat (.sl 3 1 (List.map (eInt .i64) s1))), (1, .dat (.v (.int .i64 v2)))]) Tryz.func117 Tryz.ntmps117 ?_
 refine sN (pB rfl (dn (AWp.seq (rN (pS rfl (pI rfl (kC h rfl ⟨.inl rfl, .inl rfl, trivial⟩ rfl fun x3 h => ?_)))))))
 refine pB rfl (pB rfl (dn (AWp.ret ?_)))
 subst h
 exact ⟨_, rfl, rfl⟩
def W_parse_decimal (a1 : GRat) (Q : Bool -> Prop) : Prop :=
 Call (Ev_rat_Right a1) fun x5 =>
 Br x5 (
 Br (decide (a1.N >= (0 : Int))) (
 Nz a1.D <|
 Let (Int.tmod (1000000000000000000 : Int) a1.D) fun x7 =>
 Q (x7 == (0 : Int))) (
 Q false)) (
 Q false)
theorem walk_parse_decimal {a1 : GRat} {r : Bool} (h : W_parse_decimal a1 (fun r' => r' = r)) : Ev_parse_decimal a1 r := by
 unfold W_parse_decimal at h
 refine intr (L := [(0, .dat (GRat.enc a1))]) Tryz.func118 Tryz.ntmps118 ?_
 refine sN (bx (v := .dat (.st _ _)) ?_)
 refine pB rfl (dn (AWp.seq (rN (pT rfl (kC h rfl ⟨.inl rfl, trivial⟩ rfl fun x5 h => ?_)))))
 refine pB rfl (sB 5 h (fun h => ?_) (fun h => ?_))
 ·refine pP rfl (pI rfl (pB rfl (pB rfl (pB rfl (sB 10 h (fun h => ?_) (fun h => ?_))))))
  ·refine pP rfl (pI rfl ?_)
   obtain ⟨hq, h⟩ := h
   obtain ⟨x7, ex7, h⟩ := h.get
   refine AOps.q rfl rfl rfl rfl rfl (rbin_rem hq) ex7 ?_
   refine pB rfl (pB rfl (pB rfl (dn (AWp.ret ?_))))
   subst h
   exact ⟨_, rfl, rfl⟩
  refine fo 4 rfl (pB rfl (pB rfl (dn (AWp.ret ?_))))
  subst h
  exact ⟨_, rfl, rfl⟩
 refine fo 3 rfl (pB rfl (pB rfl (fo 4 rfl (pB rfl (pB rfl (dn (AWp.ret ?_)))))))
 subst h
 exact ⟨_, rfl, rfl⟩
def W_parse_index (t1 : GTree) (Q : Bool -> Prop) : Prop :=
 Join1 (fun j29 =>
 Br (t1.Kind == (8 : Int)) (j29 (t1.Kind == (8 : Int))) (
 j29 (t1.Kind == (9 : Int)))
 ) (fun (x28 : Bool) =>
 Br x28 (
 Br (((t1.Kids.length : Nat) : Int) == (2 : Int)) (
 At t1.Kids (0 : Int) fun x43 =>
 Call (fun x45 : Bool => FVal prog Fn_parse_index_2 [GTree.out x43] (.v (.bool x45))) fun x45 =>
 Br x45 (
 At t1.Kids (1 : Int) fun x48 =>
 Call (fun x50 : Bool => FVal prog Fn_parse_index_1 [GTree.out x48] (.v (.bool x50))) fun x50 =>
 Q x50) (
 Q false)) (
 Q false)) (
 Call (fun x56 : Bool => FVal prog Fn_parse_index_1 [GTree.out t1] (.v (.bool x56))) fun x56 =>
 Br x56 (Q true) (
 Call (fun x58 : Bool => FVal prog Fn_parse_index_2 [GTree.out t1] (.v (.bool x58))) fun x58 =>
 Q x58)))
theorem walk_parse_index {t1 : GTree} {r : Bool} (h : W_parse_index t1 (fun r' => r' = r)) : Ev_parse_index t1 r := by
 unfold W_parse_index at h
 refine intr (L := [(0, .dat (GTree.out t1))]) Tryz.func119 Tryz.ntmps119 ?_
 refine sN (bx (v := .dat (.st _ _)) ?_)
 refine pB rfl (dn (AWp.seq (rN ?_)))
 refine AOps.mv rfl rfl (.inr rfl) rfl ?_
 refine dn (sN ?_)
 refine AOps.mv rfl rfl (.inr rfl) rfl ?_
 refine dn (AWp.seq (AWp.seq (rN (pP rfl (pI rfl (dn (AWp.block (AWp.seq (AWp.seq (rN (pB rfl (pB rfl (dn ?_)))))))))))))
 obtain ⟨J60, h, hk61⟩ := h
 refine AWp.cutK (I := fun p : Bool => mkSt [(1, .pt 1 [] 0), (3, .dat (Fn_parse_index_1)), (4, .dat (Fn_parse_index_2)), (7, .dat (.v (.bool p)))] [(1, .box 26 9 (.dat (GTree.out t1)))]) (Inv := fun p : Bool => J60 p) ?_ (fun p hp => ?_)
 ·refine cB h (fun h => ?_) (fun h => ?_)
  ·refine AWp.skip ?_
   exact ⟨(t1.Kind == (8 : Int)), h, sl⟩
  refine rN (pB rfl (pB rfl (dn ?_)))
  exact ⟨(t1.Kind == (9 : Int)), h, sl⟩
 replace h := hk61 p hp
 revert h; clear hp; generalize p = x28; intro h
 refine cB h (fun h => ?_) (fun h => ?_)
 ·refine sN (pP rfl (pS rfl (al (((t1.Kids.length : Nat) : Int)) rfl (pB rfl (pB rfl (sB 14 h (fun h => ?_) (fun h => ?_)))))))
  ·refine AOps.mv rfl rfl (.inl rfl) rfl ?_
   refine pP rfl (pS rfl (kI h GTree.get rfl rfl rfl rfl rfl rfl rfl fun x43 h => ?_))
   refine pT rfl ?_
   obtain ⟨x45, hc46, h⟩ := h
   refine AOps.callv hc46 rfl rfl rfl rfl ⟨.inl rfl, trivial⟩ ?_
   refine pB rfl (pB rfl (sB 22 h (fun h => ?_) (fun h => ?_)))
   ·refine AOps.mv rfl rfl (.inl rfl) rfl ?_
    refine pP rfl (pS rfl (kI h GTree.get rfl rfl rfl rfl rfl rfl rfl fun x48 h => ?_))
    refine pT rfl ?_
    obtain ⟨x50, hc51, h⟩ := h
    refine AOps.callv hc51 rfl rfl rfl rfl ⟨.inl rfl, trivial⟩ ?_
    refine pB rfl (pB rfl (dn (AWp.ret ?_)))
    subst h
    exact ⟨_, rfl, rfl⟩
   refine fo 6 rfl (pB rfl (pB rfl (dn (AWp.ret ?_))))
   subst h
   exact ⟨_, rfl, rfl⟩
  refine fo 6 rfl (pB rfl (pB rfl (fo 6 rfl (pB rfl (pB rfl (dn (AWp.ret ?_)))))))
  subst h
  exact ⟨_, rfl, rfl⟩
 refine AWp.skip (AWp.seq (rN ?_))
 refine AOps.mv rfl rfl (.inl rfl) rfl ?_
 refine pT rfl ?_
 obtain ⟨x56, hc57, h⟩ := h
 refine AOps.callv hc57 rfl rfl rfl rfl ⟨.inl rfl, trivial⟩ ?_
 refine pB rfl (sB 33 h (fun h => ?_) (fun h => ?_))
 ·refine fo 3 rfl (pB rfl (pB rfl (dn (AWp.ret ?_))))
  subst h
  exact ⟨_, rfl, rfl⟩
 refine AOps.mv rfl rfl (.inl rfl) rfl ?_
 refine pT rfl ?_
 obtain ⟨x58, hc59, h⟩ := h
 refine AOps.callv hc59 rfl rfl rfl rfl ⟨.inl rfl, trivial⟩ ?_
 refine pB rfl (pB rfl (dn (AWp.ret ?_)))
 subst h
 exact ⟨_, rfl, rfl⟩
def W_slices_Index_int (s1 : List Int) (v2 : Int) (Q : Int -> Prop) : Prop :=
 Loop1 (0 : Int) (fun (x33 : Int) next34 =>
 Br (decide (x33 < ((s1.length : Nat) : Int))) (
 At s1 x33 fun x39 =>
 Br (v2 == x39) (Q x33) (
 Let (IntKind.i64.wrap (x33 + (1 : Int))) fun x41 =>
 next34 x41)) (
 Q (-1 : Int)))
theorem walk_slices_Index_int {s1 : List Int} {v2 : Int} {r : Int} (h : W_slices_Index_int s1 v2 (fun r' => r' = r)) : Ev_slices_Index_int s1 v2 r := by
 unfold W_slices_Index_int at h
 refine intr (L := [(0, .dat (.sl 3 1 (List.map (eInt .i64) s1))), (1, .dat (.v (.int .i64 v2)))]) Tryz.func152 Tryz.ntmps152 ?_
 refine sN (pI rfl (dn (AWp.seq (AWp.seq (rN (pS rfl (al (((s1.length : Nat) : Int)) rfl (pI rfl (dn (AWp.block ?_))))))))))
 obtain ⟨I42, x43, hz44, hr45⟩ := h
 refine AWp.loop (I := fun p : Int => mkSt [(0, .dat (.sl 3 1 (List.map (eInt .i64) s1))), (1, .dat (.v (.int .i64 v2))), (7, .dat (.v (.int .i64 ((s1.length : Nat) : Int)))), (8, .dat (.v (.int .i64 p)))] []) (Inv := fun p => I42 p) (μ := fun p => x43 p) (x0 := (0 : Int)) hz44 sl (fun p hp => ?_)
 have h := hr45 p hp
 revert h; clear hp; generalize p = x33; intro h
 refine sN (pW rfl (dn (AWp.seq (cB h (fun h => ?_) (fun h => ?_)))))
 ·refine AWp.skip (AWp.seq (AWp.block (AWp.seq (rN (pI rfl (pI rfl (dn (AWp.seq (rN (pI rfl (pS rfl (pI rfl (kI h map_get rfl rfl rfl rfl rfl rfl rfl fun x39 h => ?_)))))))))))))
  refine pI rfl (pB rfl (dn (cB h (fun h => ?_) (fun h => ?_))))
  ·refine sN (pI rfl (pI rfl (dn (AWp.ret ?_))))
   subst h
   exact ⟨_, rfl, rfl⟩
  refine AWp.skip (rN ?_)
  obtain ⟨x41, ex41, h⟩ := h.get
  refine ai ex41 rfl (pI rfl (dn ?_))
  exact ⟨x41, h.1, h.2, sl⟩
 refine AWp.exit ?_
 refine sN (pI rfl (dn (AWp.ret ?_)))
 subst h
 exact ⟨_, rfl, rfl⟩
def W_parse_index_1 (t1 : GTree) (Q : Bool -> Prop) : Prop :=
 Br (t1.Kind == (1 : Int)) (
 Br (t1.Num.D == (1 : Int)) (
 Br (decide (t1.Num.N >= (0 : Int))) (Q (decide (t1.Num.N <= (1000000 : Int)))) (
 Q false)) (
 Q false)) (
 Q false)
theorem walk_parse_index_1 {t1 : GTree} {r : Bool} (h : W_parse_index_1 t1 (fun r' => r' = r)) : Ev_parse_index_1 t1 r := by
 unfold W_parse_index_1 at h
 refine intr (L := [(0, .dat (GTree.out t1))]) Tryz.func153 Tryz.ntmps153 ?_
 refine sN (bx (v := .dat (.st _ _)) ?_)
 refine pB rfl (dn (AWp.seq (rN (pP rfl (pI rfl (pB rfl (pB rfl (sB 6 h (fun h => ?_) (fun h => ?_)))))))))
 ·refine pP rfl (pP rfl (pI rfl (pB rfl (pB rfl (pB rfl (sB 12 h (fun h => ?_) (fun h => ?_)))))))
  ·refine pP rfl (pP rfl (pI rfl (pB rfl (pB rfl (pB rfl (sB 18 h (fun h => ?_) (fun h => ?_)))))))
   ·refine pP rfl (pP rfl (pI rfl (pB rfl (pB rfl (pB rfl (dn (AWp.ret ?_)))))))
    subst h
    exact ⟨_, rfl, rfl⟩
   refine fo 4 rfl (pB rfl (pB rfl (dn (AWp.ret ?_))))
   subst h
   exact ⟨_, rfl, rfl⟩
  refine fo 4 rfl (pB rfl (pB rfl (fo 4 rfl (pB rfl (pB rfl (dn (AWp.ret ?_)))))))
  subst h
  exact ⟨_, rfl, rfl⟩
 refine fo 4 rfl (pB rfl (pB rfl (fo 4 rfl (pB rfl (pB rfl (fo 4 rfl (pB rfl (pB rfl (dn (AWp.ret ?_))))))))))
 subst h
 exact ⟨_, rfl, rfl⟩
def W_parse_index_2 (t1 : GTree) (Q : Bool -> Prop) : Prop :=
 Br (t1.Kind == (2 : Int)) (
 Br (((t1.Kids.length : Nat) : Int) == (1 : Int)) (
 At t1.Kids (0 : Int) fun x9 =>
 Q (((x9.Kids.length : Nat) : Int) == (0 : Int))) (
 Q false)) (
 Q false)
theorem walk_parse_index_2 {t1 : GTree} {r : Bool} (h : W_parse_index_2 t1 (fun r' => r' = r)) : Ev_parse_index_2 t1 r := by
 unfold W_parse_index_2 at h
 refine intr (L := [(0, .dat (GTree.out t1))]) Tryz.func154 Tryz.ntmps154 ?_
 refine sN (bx (v := .dat (.st _ _)) ?_)
 refine pB rfl (dn (AWp.seq (rN (pP rfl (pI rfl (pB rfl (pB rfl (sB 6 h (fun h => ?_) (fun h => ?_)))))))))
 ·refine pP rfl (pS rfl (al (((t1.Kids.length : Nat) : Int)) rfl (pB rfl (pB rfl (pB rfl (sB 12 h (fun h => ?_) (fun h => ?_)))))))
  ·refine pP rfl (pS rfl (kI h GTree.get rfl rfl rfl rfl rfl rfl rfl fun x9 h => ?_))
   refine pX rfl (pS rfl (al (((x9.Kids.length : Nat) : Int)) rfl (pB rfl (pB rfl (pB rfl (dn (AWp.ret ?_)))))))
   subst h
   exact ⟨_, rfl, rfl⟩
  refine fo 7 rfl (pB rfl (pB rfl (dn (AWp.ret ?_))))
  subst h
  exact ⟨_, rfl, rfl⟩
 refine fo 4 rfl (pB rfl (pB rfl (fo 7 rfl (pB rfl (pB rfl (dn (AWp.ret ?_)))))))
 subst h
 exact ⟨_, rfl, rfl⟩
def W_slices_IndexFunc_api_Tree (s1 : List GTree) (f2 : DV) (Q : Int -> Prop) : Prop :=
 Loop1 (0 : Int) (fun (x45 : Int) next46 =>
 Br (decide (x45 < ((s1.length : Nat) : Int))) (
 At s1 x45 fun x53 =>
 Call (fun x55 : Bool => FVal prog f2 [GTree.out x53] (.v (.bool x55))) fun x55 =>
 Br x55 (Q x45) (
 Let (IntKind.i64.wrap (x45 + (1 : Int))) fun x57 =>
 next46 x57)) (
 Q (-1 : Int)))
theorem walk_slices_IndexFunc_api_Tree {s1 : List GTree} {f2 : DV} {r : Int} (h : W_slices_IndexFunc_api_Tree s1 f2 (fun r' => r' = r)) : Ev_slices_IndexFunc_api_Tree s1 f2 r := by
 unfold W_slices_IndexFunc_api_Tree at h
 refine intr (L := [(0, .dat (.sl 26 9 (List.map GTree.enc s1))), (1, .dat (f2))]) Tryz.func78 Tryz.ntmps78 ?_
 refine sN (pI rfl (dn (AWp.seq (AWp.seq (rN (pS rfl (al (((s1.length : Nat) : Int)) rfl (pI rfl (dn (AWp.block ?_))))))))))
 obtain ⟨I58, x59, hz60, hr61⟩ := h
 refine AWp.loop (I := fun p : Int => mkSt [(0, .dat (.sl 26 9 (List.map GTree.enc s1))), (1, .dat (f2)), (7, .dat (.v (.int .i64 ((s1.length : Nat) : Int)))), (8, .dat (.v (.int .i64 p)))] []) (Inv := fun p => I58 p) (μ := fun p => x59 p) (x0 := (0 : Int)) hz60 sl (fun p hp => ?_)
 have h := hr61 p hp
 revert h; clear hp; generalize p = x45; intro h
 refine sN (pW rfl (dn (AWp.seq (cB h (fun h => ?_) (fun h => ?_)))))
 ·refine AWp.skip (AWp.seq (AWp.block (AWp.seq (rN (pI rfl (pI rfl (dn (AWp.seq (rN ?_)))))))))
  refine AOps.mv rfl rfl (.inl rfl) rfl ?_
  refine pS rfl (pI rfl (kI h GTree.get rfl rfl rfl rfl rfl rfl rfl fun x53 h => ?_))
  refine pT rfl ?_
  obtain ⟨x55, hc56, h⟩ := h
  refine AOps.callv hc56 rfl rfl rfl rfl ⟨.inl rfl, trivial⟩ ?_
  refine dn (cB h (fun h => ?_) (fun h => ?_))
  ·refine sN (pI rfl (pI rfl (dn (AWp.ret ?_))))
   subst h
   exact ⟨_, rfl, rfl⟩
  refine AWp.skip (rN ?_)
  obtain ⟨x57, ex57, h⟩ := h.get
  refine ai ex57 rfl (pI rfl (dn ?_))
  exact ⟨x57, h.1, h.2, sl⟩
 refine AWp.exit ?_
 refine sN (pI rfl (dn (AWp.ret ?_)))
 subst h
 exact ⟨_, rfl, rfl⟩
end Go.Sim.YtomeghkmdcfolaaGreatDoor
