/- What is proved: functions of the program compute what plain statements tell. -/
import Derived.Test.YtnnfiohdkobkdaaGreatDoorZZPLWE

namespace Go.Sim.YtnnfiohdkobkdaaGreatDoor
open Go.RowKit Go.Proofs Go.Proofs.Tryz
set_option maxRecDepth 100000
def W_parse_deep (t1 : GTree) (most2 : Int) (Q : Bool → Prop) : Prop :=
 Br (most2 == (0 : Int)) (Q true) (
  Call (Ev_slices_ContainsFunc_api_Tree t1.Kids (Fn_parse_deep_1 most2)) fun x5 =>
  Q x5)
theorem walk_parse_deep {t1 : GTree} {most2 : Int} {r : Bool} (h : W_parse_deep t1 most2 (fun r' => r' = r)) : Ev_parse_deep t1 most2 r := by
  unfold W_parse_deep at h
  refine intr (L := [(0, .dat (GTree.out t1)), (1, .dat (.v (.int .i64 most2)))]) Tryz.func20 Tryz.ntmps20 ?_
  refine sN (bx (v := .dat (.st _ _)) ?_)
  refine bx (v := .dat (.v (.int _ _))) ?_
  refine pB rfl (dn (AWp.seq ?_))
  refine AWp.freezebox 3 3 rfl rfl ?_
  refine rN (pI rfl (pB rfl (pB rfl (sB 7 h (fun h => ?_) (fun h => ?_)))))
  · refine ff rfl (ff rfl (ff rfl (ff rfl (pB rfl (pB rfl (dn (AWp.ret ?_)))))))
    subst h
    exact ⟨_, rfl, rfl⟩
  refine pP rfl (pS rfl ?_)
  refine AOps.mkfn (ds := [.pd (.v (.int .i64 most2))]) rfl rfl rfl ⟨.inr ⟨_, rfl, rfl⟩, trivial⟩ ?_
  obtain ⟨x5, hc6, h⟩ := h
  refine ca hc6 rfl ⟨.inl rfl, .inl rfl, trivial⟩ rfl (pB rfl (pB rfl (dn (AWp.ret ?_))))
  subst h
  exact ⟨_, rfl, rfl⟩
def W_parse_nodes (t1 : GTree) (most2 : Int) (Q : Int → Prop) : Prop :=
 Loop2 (1 : Int) (0 : Int) (fun (n60 : Int) (x61 : Int) next62 =>
  Br (decide (x61 < ((t1.Kids.length : Nat) : Int))) (
   At t1.Kids x61 fun x71 =>
   Br (decide (n60 > most2)) (Q n60) (
    Let (IntKind.i64.wrap (most2 - n60)) fun x73 =>
    Call (Ev_parse_nodes x71 x73) fun x74 =>
    Let (IntKind.i64.wrap (n60 + x74)) fun x76 =>
    Let (IntKind.i64.wrap (x61 + (1 : Int))) fun x77 =>
    next62 x76 x77)) (
   Q n60))
theorem walk_parse_nodes {t1 : GTree} {most2 : Int} {r : Int} (h : W_parse_nodes t1 most2 (fun r' => r' = r)) : Ev_parse_nodes t1 most2 r := by
  unfold W_parse_nodes at h
  refine intr (L := [(0, .dat (GTree.out t1)), (1, .dat (.v (.int .i64 most2)))]) Tryz.func21 Tryz.ntmps21 ?_
  refine sN (bx (v := .dat (.st _ _)) ?_)
  refine pI rfl (dn (AWp.seq (rN (pI rfl (dn (AWp.seq (AWp.seq (rN (pP rfl (pS rfl (al (((t1.Kids.length : Nat) : Int)) rfl (pI rfl (dn (AWp.block ?_))))))))))))))
  obtain ⟨I78, x79, hz80, hr81⟩ := h
  refine AWp.loop (I := fun p : Int × Int => mkSt [(1, .dat (.v (.int .i64 most2))), (5, .dat (.v (.int .i64 p.1))), (9, .dat (.sl 26 9 (List.map GTree.enc t1.Kids))), (10, .dat (.v (.int .i64 ((t1.Kids.length : Nat) : Int)))), (11, .dat (.v (.int .i64 p.2)))] []) (Inv := fun p => I78 p.1 p.2) (μ := fun p => x79 p.1 p.2) (x0 := ⟨(1 : Int), (0 : Int)⟩) hz80 sl (fun p hp => ?_)
  obtain ⟨n60, x61⟩ := p
  have h := hr81 n60 x61 hp
  refine sN (pW rfl (dn (AWp.seq (cB h (fun h => ?_) (fun h => ?_)))))
  · refine AWp.skip ?_
    refine AWp.seq (AWp.block (AWp.seq (rW ?_)))
    obtain ⟨hi70, x71, hx72, h⟩ := h
    refine AOps.idx tabOk (z := GTree.out x71) rfl rfl rfl rfl rfl rfl rfl rfl hi70 (GTree.get hx72) ?_
    refine pT rfl (al0 ?_)
    refine st (v := .dat (.st _ _)) ?_
    refine dn (AWp.seq (AWp.seq (rN (pI rfl (pI rfl (pB rfl (dn (cB h (fun h => ?_) (fun h => ?_)))))))))
    · refine AWp.exit ?_
      refine sN (pI rfl (pI rfl (dn (AWp.ret ?_))))
      subst h
      exact ⟨_, rfl, rfl⟩
    refine AWp.skip ?_
    refine rN (pI rfl (pT rfl (pI rfl (pI rfl ?_))))
    obtain ⟨x73, ex73, h⟩ := h.get
    refine ai ex73 rfl ?_
    obtain ⟨x74, hc75, h⟩ := h
    refine ca hc75 rfl ⟨.inl rfl, .inl rfl, trivial⟩ rfl ?_
    obtain ⟨x76, ex76, h⟩ := h.get
    refine ai ex76 rfl (pI rfl (dn (rN ?_)))
    obtain ⟨x77, ex77, h⟩ := h.get
    refine ai ex77 rfl (pI rfl (dn ?_))
    exact ⟨⟨x76, x77⟩, h.1, h.2, sl⟩
  refine AWp.exit ?_
  refine sN (pI rfl (pI rfl (dn (AWp.ret ?_))))
  subst h
  exact ⟨_, rfl, rfl⟩
def W_slices_ContainsFunc_api_Tree (s1 : List GTree) (f2 : DV) (Q : Bool → Prop) : Prop :=
 Call (Ev_slices_IndexFunc_api_Tree s1 f2) fun x3 =>
 Q (decide (x3 ≥ (0 : Int)))
theorem walk_slices_ContainsFunc_api_Tree {s1 : List GTree} {f2 : DV} {r : Bool} (h : W_slices_ContainsFunc_api_Tree s1 f2 (fun r' => r' = r)) : Ev_slices_ContainsFunc_api_Tree s1 f2 r := by
  unfold W_slices_ContainsFunc_api_Tree at h
  refine intr (L := [(0, .dat (.sl 26 9 (List.map GTree.enc s1))), (1, .dat (f2))]) Tryz.func36 Tryz.ntmps36 ?_
  refine sN (pB rfl (dn (AWp.seq (rN (pS rfl ?_)))))
  refine AOps.mv rfl rfl (.inl rfl) rfl ?_
  obtain ⟨x3, hc4, h⟩ := h
  refine ca hc4 rfl ⟨.inl rfl, .inl rfl, trivial⟩ rfl (pB rfl (pB rfl (dn (AWp.ret ?_))))
  subst h
  exact ⟨_, rfl, rfl⟩
def W_parse_deep_1 (k1 : GTree) (x2 : Int) (Q : Bool → Prop) : Prop :=
 Let (IntKind.i64.wrap (x2 - (1 : Int))) fun x3 =>
 Call (Ev_parse_deep k1 x3) fun x4 =>
 Q x4
theorem walk_parse_deep_1 {k1 : GTree} {x2 : Int} {r : Bool} (h : W_parse_deep_1 k1 x2 (fun r' => r' = r)) : Ev_parse_deep_1 k1 x2 r := by
  unfold W_parse_deep_1 at h
  refine intr (L := [(0, .dat (GTree.out k1)), (1, .dat (.pd (.v (.int .i64 x2))))]) Tryz.func37 Tryz.ntmps37 ?_
  refine AWp.unpd 1 rfl ?_
  refine sN (bx (v := .dat (.st _ _)) ?_)
  refine pB rfl (dn (AWp.seq (rN (pT rfl (pI rfl ?_)))))
  obtain ⟨x3, ex3, h⟩ := h.get
  refine ai ex3 rfl ?_
  obtain ⟨x4, hc5, h⟩ := h
  refine ca hc5 rfl ⟨.inl rfl, .inl rfl, trivial⟩ rfl (pB rfl (dn (AWp.ret ?_)))
  subst h
  exact ⟨_, rfl, rfl⟩
def W_parse_decimal (a1 : GRat) (Q : Bool → Prop) : Prop :=
 Call (Ev_rat_Right a1) fun x5 =>
 Br x5 (
  Br (decide (a1.N ≥ (0 : Int))) (
   Nz a1.D <|
   Let (Int.tmod (1000000000000000000 : Int) a1.D) fun x7 =>
   Q (x7 == (0 : Int))) (
   Q false)) (
  Q false)
theorem walk_parse_decimal {a1 : GRat} {r : Bool} (h : W_parse_decimal a1 (fun r' => r' = r)) : Ev_parse_decimal a1 r := by
  unfold W_parse_decimal at h
  refine intr (L := [(0, .dat (GRat.enc a1))]) Tryz.func150 Tryz.ntmps150 ?_
  refine sN (bx (v := .dat (.st _ _)) ?_)
  refine pB rfl (dn (AWp.seq (rN (pT rfl ?_))))
  obtain ⟨x5, hc6, h⟩ := h
  refine ca hc6 rfl ⟨.inl rfl, trivial⟩ rfl (pB rfl (sB 5 h (fun h => ?_) (fun h => ?_)))
  · refine pP rfl (pI rfl (pB rfl (pB rfl (pB rfl (sB 10 h (fun h => ?_) (fun h => ?_))))))
    · refine pP rfl (pI rfl ?_)
      obtain ⟨hq, h⟩ := h
      obtain ⟨x7, ex7, h⟩ := h.get
      refine AOps.q rfl rfl rfl rfl rfl (rbin_rem hq) ex7 ?_
      refine pB rfl (pB rfl (pB rfl (dn (AWp.ret ?_))))
      subst h
      exact ⟨_, rfl, rfl⟩
    refine ff rfl (ff rfl (ff rfl (ff rfl (pB rfl (pB rfl (dn (AWp.ret ?_)))))))
    subst h
    exact ⟨_, rfl, rfl⟩
  refine ff rfl (ff rfl (ff rfl (pB rfl (pB rfl (ff rfl (ff rfl (ff rfl (ff rfl (pB rfl (pB rfl (dn (AWp.ret ?_))))))))))))
  subst h
  exact ⟨_, rfl, rfl⟩
def W_slices_IndexFunc_api_Tree (s1 : List GTree) (f2 : DV) (Q : Int → Prop) : Prop :=
 Loop1 (0 : Int) (fun (x45 : Int) next46 =>
  Br (decide (x45 < ((s1.length : Nat) : Int))) (
   At s1 x45 fun x53 =>
   Call (fun x55 : Bool => FVal prog f2 [GTree.out x53] (.v (.bool x55))) fun x55 =>
   Br x55 (Q x45) (
    Let (IntKind.i64.wrap (x45 + (1 : Int))) fun x57 =>
    next46 x57)) (
   Q (-1 : Int)))
theorem walk_slices_IndexFunc_api_Tree {s1 : List GTree} {f2 : DV} {r : Int} (h : W_slices_IndexFunc_api_Tree s1 f2 (fun r' => r' = r)) : Ev_slices_IndexFunc_api_Tree s1 f2 r := by
  unfold W_slices_IndexFunc_api_Tree at h
  refine intr (L := [(0, .dat (.sl 26 9 (List.map GTree.enc s1))), (1, .dat (f2))]) Tryz.func92 Tryz.ntmps92 ?_
  refine sN (pI rfl (dn (AWp.seq (AWp.seq (rN (pS rfl (al (((s1.length : Nat) : Int)) rfl (pI rfl (dn (AWp.block ?_))))))))))
  obtain ⟨I58, x59, hz60, hr61⟩ := h
  refine AWp.loop (I := fun p : Int => mkSt [(0, .dat (.sl 26 9 (List.map GTree.enc s1))), (1, .dat (f2)), (7, .dat (.v (.int .i64 ((s1.length : Nat) : Int)))), (8, .dat (.v (.int .i64 p)))] []) (Inv := fun p => I58 p) (μ := fun p => x59 p) (x0 := (0 : Int)) hz60 sl (fun p hp => ?_)
  have h := hr61 p hp
  revert h; clear hp; generalize p = x45; intro h
  refine sN (pW rfl (dn (AWp.seq (cB h (fun h => ?_) (fun h => ?_)))))
  · refine AWp.skip ?_
    refine AWp.seq (AWp.block (AWp.seq (rN (pI rfl (pI rfl (dn (AWp.seq (rN ?_))))))))
    refine AOps.mv rfl rfl (.inl rfl) rfl ?_
    refine pS rfl (pI rfl ?_)
    obtain ⟨hi52, x53, hx54, h⟩ := h
    refine AOps.idx tabOk (z := GTree.out x53) rfl rfl rfl rfl rfl rfl rfl rfl hi52 (GTree.get hx54) ?_
    refine pT rfl ?_
    obtain ⟨x55, hc56, h⟩ := h
    refine AOps.callv hc56 rfl rfl rfl rfl ⟨.inl rfl, trivial⟩ ?_
    refine dn (cB h (fun h => ?_) (fun h => ?_))
    · refine sN (pI rfl (pI rfl (dn (AWp.ret ?_))))
      subst h
      exact ⟨_, rfl, rfl⟩
    refine AWp.skip ?_
    refine rN ?_
    obtain ⟨x57, ex57, h⟩ := h.get
    refine ai ex57 rfl (pI rfl (dn ?_))
    exact ⟨x57, h.1, h.2, sl⟩
  refine AWp.exit ?_
  refine sN (pI rfl (dn (AWp.ret ?_)))
  subst h
  exact ⟨_, rfl, rfl⟩
end Go.Sim.YtnnfiohdkobkdaaGreatDoor
