/- What is proved: functions of the program compute what plain statements tell. -/
import Derived.Test.YtifjflhnfjhijaaGreatDoorZPSWE

namespace Go.Sim.YtifjflhnfjhijaaGreatDoor
open Go.RowKit Go.Proofs Go.Proofs.Tryz
set_option maxRecDepth 100000
def q8j (p1 : Gref13P) (Q : GToken -> Prop) : Prop :=
 At p1.L p1.I fun x3 =>
 Q x3
theorem qB9 {p1 : Gref13P} {r : GToken} (h : q8j p1 (fun r' => r' = r)) : q12 p1 r := by
 unfold q8j at h
 refine AFnB.intro' (L := []) q01 Tryz.func35 rfl rfl Tryz.ntmps35 rfl rfl rfl (fun b => ?_)
 refine sN (al0 ?_)
 refine dn (AWp.seq (rE [(0, [1000000]), (2, [2]), (3, [1000000]), (4, [1000000]), (5, [1000000]), (7, [1000000]), (8, [1000000]), (9, [1000000])] (pP rfl (pP rfl (pP rfl (pS rfl (pP rfl (pP rfl (pP rfl (pI rfl (kI h q1g rfl rfl rfl rfl rfl rfl rfl fun x3 h => ?_)))))))))))
 refine pT rfl (st (v := .dat (.st _ _)) ?_)
 subst h; exact dn (AWp.ret ⟨_, rfl, rfl, rfl⟩)
def q7k (p1 : Gref13P) (s2 : ByteArray) (Q : Bool × Gref13P -> Prop) : Prop :=
 Call (q07 p1 s2) fun x3 =>
 Br x3 (
 Let (IntKind.i64.wrap (p1.I + (1 : Int))) fun x6 =>
 Q (true, ({ p1 with I := x6 }))) (
 Q (false, p1))
theorem qA4 {p1 : Gref13P} {s2 : ByteArray} {r : Bool × Gref13P} (h : q7k p1 s2 (fun r' => r' = r)) : q08 p1 s2 r := by
 unfold q7k at h
 refine AFnB.intro' (L := [(1, .dat (.v (.string s2)))]) q01 Tryz.func36 rfl rfl Tryz.ntmps36 rfl rfl rfl (fun b => ?_)
 refine sN (pB rfl (dn (AWp.seq (AWp.seq (rN (pP rfl (pG rfl (kR h rfl ⟨.inl rfl, trivial⟩ fun x3 h => ?_))))))))
 refine dn (cB h (fun h => ?_) (fun h => ?_))
 ·refine sW (pP rfl (pP rfl (pP rfl (pP rfl (pI rfl ?_)))))
  obtain ⟨x6, ex6, h⟩ := h.get
  refine ai ex6 rfl (pP rfl (pP rfl (st (v := .dat (.v (.int _ _))) ?_)))
  refine dn (sN (pB rfl (dn (AWp.ret ?_))))
  subst h
  exact ⟨_, rfl, rfl, rfl⟩
 refine AWp.skip (AWp.seq (rN (pB rfl (dn (AWp.ret ?_)))))
 subst h
 exact ⟨_, rfl, rfl, rfl⟩
def q3c (p1 : Gref13P) (Q : ByteArray × Gref13P -> Prop) : Prop :=
 Br (p1.Bad != (0 : Int)) (Q ((ByteArray.mk #[]), p1)) (
 Call (q12 p1) fun x2 =>
 Br (x2.Kind != (1 : Int)) (
 Call (q1t p1) fun x6 =>
 Q ((ByteArray.mk #[]), x6)) (
 Let (IntKind.i64.wrap (p1.I + (1 : Int))) fun x8 =>
 Let (IntKind.i64.wrap (x8 - (1 : Int))) fun x9 =>
 At p1.L x9 fun x11 =>
 Q (x11.S, ({ p1 with I := x8 }))))
theorem qFq {p1 : Gref13P} {r : ByteArray × Gref13P} (h : q3c p1 (fun r' => r' = r)) : q0l p1 r := by
 unfold q3c at h
 refine AFnB.intro' (L := []) q01 Tryz.func37 rfl rfl Tryz.ntmps37 rfl rfl rfl (fun b => ?_)
 refine sN (pG rfl (dn (AWp.seq (AWp.seq (rN (pP rfl (pP rfl (pP rfl (pI rfl (pB rfl (dn (cB h (fun h => ?_) (fun h => ?_)))))))))))))
 ·refine sN (pG rfl (dn (AWp.ret ?_)))
  subst h
  exact ⟨_, rfl, rfl, rfl⟩
 refine AWp.skip (AWp.seq (AWp.seq (rN (pP rfl (kR h rfl trivial fun x2 h => ?_)))))
 refine pI rfl (pB rfl (dn (cB h (fun h => ?_) (fun h => ?_))))
 ·refine AWp.seq ?_
  refine AWp.regionN (fun o => q00 [40] o) rfl ?_
  refine pP rfl (kB h rfl trivial fun x6 h => ?_)
  refine dn (sN (pG rfl (dn (AWp.ret ?_))))
  subst h
  exact ⟨_, rfl, rfl, rfl⟩
 refine AWp.skip (AWp.seq (rW (pP rfl (pP rfl (pP rfl (pP rfl (pI rfl ?_)))))))
 obtain ⟨x8, ex8, h⟩ := h.get
 refine ai ex8 rfl (pP rfl (pP rfl (st (v := .dat (.v (.int _ _))) ?_)))
 refine dn (sD (pP rfl (pP rfl (pP rfl (pS rfl (pP rfl (pP rfl (pP rfl (pI rfl ?_)))))))))
 obtain ⟨x9, ex9, h⟩ := h.get
 refine ai ex9 rfl (kI h q1g rfl rfl rfl rfl rfl rfl rfl fun x11 h => ?_)
 refine pX rfl (pG rfl (pG rfl (dn (AWp.ret ?_))))
 subst h
 exact ⟨_, rfl, rfl, rfl⟩
def q33 (p1 : Gref13P) (Q : GTree × Gref13P -> Prop) : Prop :=
 Call (q63 p1) fun x2 =>
 Loop2 x2.2 x2.1 (fun (p80 : Gref13P) (t81 : GTree) next82 =>
 q16 (fun j88 =>
 Call (q07 p80 (ByteArray.mk #[42])) fun x89 =>
 Br x89 (j88 true) (
 Call (q07 p80 (ByteArray.mk #[47])) fun x91 =>
 j88 x91)
 ) (fun (x87 : Bool) =>
 Br x87 (
 Call (q07 p80 (ByteArray.mk #[47])) fun x93 =>
 q16 (fun j96 =>
 Br x93 (j96 (23 : Int)) (
 j96 (22 : Int))
 ) (fun (k95 : Int) =>
 Let (IntKind.i64.wrap (p80.I + (1 : Int))) fun x97 =>
 Call (q63 ({ p80 with I := x97 })) fun x98 =>
 next82 x98.2 ({ GTree.zero with Kind := k95, Kids := [t81, x98.1] }))) (
 Q (t81, p80))))
theorem qGv {p1 : Gref13P} {r : GTree × Gref13P} (h : q33 p1 (fun r' => r' = r)) : q2d p1 r := by
 unfold q33 at h
 refine AFnB.intro' (L := []) q01 Tryz.func38 rfl rfl Tryz.ntmps38 rfl rfl rfl (fun b => ?_)
 refine sN (al0 ?_)
 refine dn (AWp.seq ?_)
 refine AWp.regionN (fun o => q00 [67] o) rfl ?_
 refine pP rfl (kB h rfl trivial fun x2 h => ?_)
 refine al0 ?_
 refine st (v := .dat (.st _ _)) ?_
 refine dn (AWp.seq (AWp.block ?_))
 obtain ⟨I104, x105, hz106, hr107⟩ := h
 refine AWp.loop (I := fun p : Gref13P × GTree => mkSt [(0, .pt 1000000 [] 0), (2, .pt 2 [] 0), (3, .pt 3 [] 0)] [(2, .box 26 9 (.dat (GTree.out GTree.zero))), (3, .box 26 9 (.dat (GTree.out p.2))), (1000000, .box 45 5 (.dat (Gref13P.enc p.1)))]) (Inv := fun p => I104 p.1 p.2) (μ := fun p => x105 p.1 p.2) (x0 := ⟨x2.2, x2.1⟩) hz106 sl (fun p hp => ?_)
 obtain ⟨p80, t81⟩ := p
 have h := hr107 p80 t81 hp
 refine AWp.seq (AWp.seq ?_)
 obtain ⟨J102, h, hk103⟩ := h
 refine AWp.cutK (I := fun p : Bool => mkSt [(0, .pt 1000000 [] 0), (2, .pt 2 [] 0), (3, .pt 3 [] 0), (13, .dat (.v (.bool p)))] [(2, .box 26 9 (.dat (GTree.out GTree.zero))), (3, .box 26 9 (.dat (GTree.out t81))), (1000000, .box 45 5 (.dat (Gref13P.enc p80)))]) (Inv := fun p : Bool => J102 p) ?_ (fun p hp => ?_)
 ·refine rN (pP rfl (kR h rfl ⟨.inl rfl, trivial⟩ fun x89 h => ?_))
  refine pB rfl (sB 10 h (fun h => ?_) (fun h => ?_))
  ·refine ff rfl (ff rfl (pB rfl (dn ?_)))
   exact ⟨true, h, sl⟩
  refine pP rfl (kR h rfl ⟨.inl rfl, trivial⟩ fun x91 h => ?_)
  refine pB rfl (dn ?_)
  exact ⟨x91, h, sl⟩
 replace h := hk103 p hp
 revert h; clear hp; generalize p = x87; intro h
 refine cB h (fun h => ?_) (fun h => ?_)
 ·refine AWp.skip (AWp.block (AWp.seq (rN (pI rfl (dn (AWp.seq (AWp.seq (rN (pP rfl (kR h rfl ⟨.inl rfl, trivial⟩ fun x93 h => ?_))))))))))
  refine dn ?_
  obtain ⟨J100, h, hk101⟩ := h
  refine AWp.cutK (I := fun p : Int => mkSt [(0, .pt 1000000 [] 0), (2, .pt 2 [] 0), (3, .pt 3 [] 0), (4, .dat (.v (.int .i64 p)))] [(2, .box 26 9 (.dat (GTree.out GTree.zero))), (3, .box 26 9 (.dat (GTree.out t81))), (1000000, .box 45 5 (.dat (Gref13P.enc p80)))]) (Inv := fun p : Int => J100 p) ?_ (fun p hp => ?_)
  ·refine cB h (fun h => ?_) (fun h => ?_)
   ·refine rN (pI rfl (dn ?_))
    exact ⟨(23 : Int), h, sl⟩
   refine AWp.skip ?_
   exact ⟨(22 : Int), h, sl⟩
  replace h := hk101 p hp
  revert h; clear hp; generalize p = k95; intro h
  refine sW (pP rfl (pP rfl (pP rfl (pP rfl (pI rfl ?_)))))
  obtain ⟨x97, ex97, h⟩ := h.get
  refine ai ex97 rfl (pP rfl (pP rfl (st (v := .dat (.v (.int _ _))) ?_)))
  refine dn (AWp.seq ?_)
  refine AWp.regionN (fun o => q00 [67] o) rfl ?_
  refine pP rfl (kB h rfl trivial fun x98 h => ?_)
  refine al0 ?_
  refine st (v := .dat (.st _ _)) ?_
  refine dn (rW (pI rfl (pT rfl (pT rfl ?_))))
  refine AOps.lit q01 (ys := [GTree.out t81, GTree.out x98.1]) rfl rfl rfl rfl rfl rfl ?_
  rw [show [GTree.out t81, GTree.out x98.1] = List.map GTree.enc [t81, x98.1] by simp [GTree.enc_out]]
  refine pT rfl (st (v := .dat (.st _ _)) ?_)
  refine dn ?_
  exact ⟨⟨x98.2, ({ GTree.zero with Kind := k95, Kids := [t81, x98.1] })⟩, h.1, h.2, sl⟩
 refine AWp.exit ?_
 refine sW (pT rfl (st (v := .dat (.st _ _)) ?_))
 subst h; exact dn (AWp.ret ⟨_, rfl, rfl, rfl⟩)
def q3d (p1 : Gref13P) (s2 : ByteArray) (Q : Gref13P -> Prop) : Prop :=
 Br (p1.Bad == (0 : Int)) (
 Call (q08 p1 s2) fun x5 =>
 Br (!x5.1) (
 Call (q1t x5.2) fun x7 =>
 Q x7) (
 Q x5.2)) (
 Q p1)
theorem qFr {p1 : Gref13P} {s2 : ByteArray} {r : Gref13P} (h : q3d p1 s2 (fun r' => r' = r)) : q03 p1 s2 r := by
 unfold q3d at h
 refine AFnB.intro' (L := [(1, .dat (.v (.string s2)))]) q01 Tryz.func39 rfl rfl Tryz.ntmps39 rfl rfl rfl (fun b => ?_)
 refine AWp.seq ?_
 refine AWp.regionN (fun o => q00 [36] o) rfl ?_
 refine pP rfl (pP rfl (pP rfl (pI rfl (pB rfl (pB rfl (sB 9 h (fun h => ?_) (fun h => ?_)))))))
 ·refine pP rfl (pG rfl (kB h rfl ⟨.inl rfl, trivial⟩ fun x5 h => ?_))
  refine pB rfl (pB rfl (dn (cB h (fun h => ?_) (fun h => ?_))))
  ·refine AWp.regionN (fun o => q00 [40] o) rfl ?_
   refine pP rfl (kB h rfl trivial fun x7 h => ?_)
   refine dn ?_
   subst h
   exact ⟨_, rfl, rfl, rfl⟩
  refine AWp.skip ?_
  subst h
  exact ⟨_, rfl, rfl, rfl⟩
 refine fo 4 rfl (pB rfl (dn ?_))
 refine AWp.condF rfl ?_
 refine AWp.skip ?_
 subst h
 exact ⟨_, rfl, rfl, rfl⟩
def q3e (p1 : Gref13P) (Q : Gref13P -> Prop) : Prop :=
 Call (q12 p1) fun x2 =>
 Br (x2.Kind == (0 : Int)) (
 Call (q1v p1 (131 : Int)) fun x4 =>
 Q x4) (
 Call (q1v p1 (130 : Int)) fun x6 =>
 Q x6)
theorem qFs {p1 : Gref13P} {r : Gref13P} (h : q3e p1 (fun r' => r' = r)) : q1t p1 r := by
 unfold q3e at h
 refine AFnB.intro' (L := []) q01 Tryz.func40 rfl rfl Tryz.ntmps40 rfl rfl rfl (fun b => ?_)
 refine sN (pP rfl (kR h rfl trivial fun x2 h => ?_))
 refine pI rfl (pB rfl (dn (cB h (fun h => ?_) (fun h => ?_))))
 ·refine AWp.regionN (fun o => q00 [68] o) rfl ?_
  refine pP rfl (kB h rfl ⟨.inl rfl, trivial⟩ fun x4 h => ?_)
  refine dn ?_
  subst h
  exact ⟨_, rfl, rfl, rfl⟩
 refine AWp.regionN (fun o => q00 [68] o) rfl ?_
 refine pP rfl (kB h rfl ⟨.inl rfl, trivial⟩ fun x6 h => ?_)
 refine dn ?_
 subst h
 exact ⟨_, rfl, rfl, rfl⟩
def qC8 (p1 : Gref13P) (s2 : ByteArray) (Q : Bool -> Prop) : Prop :=
 Call (q12 p1) fun x3 =>
 Br (p1.Bad == (0 : Int)) (
 Br (x3.Kind == (2 : Int)) (Q (x3.S.toList == s2.toList)) (
 Br (x3.Kind == (4 : Int)) (Q (x3.S.toList == s2.toList)) (
 Q false))) (
 Q false)
theorem qIj {p1 : Gref13P} {s2 : ByteArray} {r : Bool} (h : qC8 p1 s2 (fun r' => r' = r)) : q07 p1 s2 r := by
 unfold qC8 at h
 refine AFnB.intro' (L := [(1, .dat (.v (.string s2)))]) q01 Tryz.func41 rfl rfl Tryz.ntmps41 rfl rfl rfl (fun b => ?_)
 refine sN (pB rfl (dn (AWp.seq (rW (pP rfl (kR h rfl trivial fun x3 h => ?_))))))
 refine al0 ?_
 refine st (v := .dat (.st _ _)) ?_
 refine dn (sN (pP rfl (pP rfl (pP rfl (pI rfl (pB rfl (pB rfl (sB 13 h (fun h => ?_) (fun h => ?_)))))))))
 ·refine pP rfl (pI rfl (pB rfl (pB rfl (sB 17 h (fun h => ?_) (fun h => ?_)))))
  ·refine fo 3 rfl (pB rfl (pB rfl (pB rfl (pP rfl (pG rfl (pG rfl (pB rfl (pB rfl (pB rfl (dn (AWp.ret ?_)))))))))))
   subst h
   exact ⟨_, rfl, rfl, rfl⟩
  refine pP rfl (pI rfl (pB rfl (pB rfl (pB rfl (pB rfl (sB 23 h (fun h => ?_) (fun h => ?_)))))))
  ·refine pP rfl (pG rfl (pG rfl (pB rfl (pB rfl (pB rfl (dn (AWp.ret ?_)))))))
   subst h
   exact ⟨_, rfl, rfl, rfl⟩
  refine fo 4 rfl (pB rfl (pB rfl (dn (AWp.ret ?_))))
  subst h
  exact ⟨_, rfl, rfl, rfl⟩
 refine fo 8 rfl (pB rfl (pB rfl (fo 4 rfl (pB rfl (pB rfl (dn (AWp.ret ?_)))))))
 subst h
 exact ⟨_, rfl, rfl, rfl⟩
def q49 (x1 : Gref13P) (Q : GTree × Gref13P -> Prop) : Prop :=
 Call (q07 x1 (ByteArray.mk #[40])) fun x2 =>
 q3r (fun j26 =>
 Br x2 (
 Call (q0o x1 (ByteArray.mk #[40])) fun x27 =>
 Call (q2d x27) fun x29 =>
 Call (q03 x29.2 (ByteArray.mk #[41])) fun x31 =>
 Call (q0t x31) fun x33 =>
 j26 x33 x29.1) (
 q16 (fun j38 =>
 Br (x1.Bad == (0 : Int)) (
 Call (q12 x1) fun x39 =>
 j38 (x39.Kind == (3 : Int))) (
 j38 false)
 ) (fun (x37 : Bool) =>
 Br x37 (
 Call (q0p x1 (1 : Int) (1 : Int)) fun x41 =>
 j26 x41.2 ({ GTree.zero with Kind := (20 : Int) })) (
 Call (q0l x1) fun x43 =>
 j26 x43.2 ({ GTree.zero with Kind := (21 : Int), Name := x43.1 }))))
 ) (fun (x24 : Gref13P) (x25 : GTree) =>
 Call (q08 x24 (ByteArray.mk #[94])) fun x47 =>
 Br (!x47.1) (Q (x25, x47.2)) (
 Call (q07 x47.2 (ByteArray.mk #[40])) fun x49 =>
 q3r (fun j69 =>
 Br x49 (
 Call (q0o x47.2 (ByteArray.mk #[40])) fun x70 =>
 Call (q22 x70) fun x72 =>
 Call (q03 x72.2 (ByteArray.mk #[47])) fun x74 =>
 Call (q0p x74 (1 : Int) (64 : Int)) fun x76 =>
 Call (q03 x76.2 (ByteArray.mk #[41])) fun x78 =>
 Call (q0t x78) fun x80 =>
 Br (x80.Bad == (0 : Int)) (
 Call (q67 x72.1 x76.1) fun x82 =>
 j69 x80 x82.1) (
 j69 x80 ({ GRat.zero with D := (1 : Int) }))) (
 Call (q22 x47.2) fun x84 =>
 j69 x84.2 (GRat.mk x84.1 (1 : Int)))
 ) (fun (x67 : Gref13P) (x68 : GRat) =>
 Q (({ GTree.zero with Kind := (24 : Int), Num := x68, Kids := [x25] }), x67))))
theorem qIk {x1 : Gref13P} {r : GTree × Gref13P} (h : q49 x1 (fun r' => r' = r)) : q63 x1 r := by
 unfold q49 at h
 refine AFnB.intro' (L := []) q01 Tryz.func67 rfl rfl Tryz.ntmps67 rfl rfl rfl (fun b => ?_)
 refine sN (al0 ?_)
 refine dn (sW (pT rfl (al0 ?_)))
 refine st (v := .dat (.st _ _)) ?_
 refine dn (AWp.seq (AWp.seq (rN (pP rfl (kR h rfl ⟨.inl rfl, trivial⟩ fun x2 h => ?_)))))
 refine dn ?_
 obtain ⟨J88, h, hk89⟩ := h
 refine AWp.cutK (I := fun p : Gref13P × GTree => mkSt [(0, .pt 1000000 [] 0), (2, .pt 2 [] 0), (3, .pt 3 [] 0)] [(2, .box 26 9 (.dat (GTree.out GTree.zero))), (3, .box 26 9 (.dat (GTree.out p.2))), (1000000, .box 45 5 (.dat (Gref13P.enc p.1)))]) (Inv := fun p : Gref13P × GTree => J88 p.1 p.2) ?_ (fun p hp => ?_)
 ·refine cB h (fun h => ?_) (fun h => ?_)
  ·refine AWp.seq ?_
   refine AWp.regionN (fun o => q00 [100] o) rfl ?_
   refine pP rfl (kB h rfl ⟨.inl rfl, trivial⟩ fun x27 h => ?_)
   refine dn (AWp.seq ?_)
   refine AWp.regionN (fun o => q00 [38] o) rfl ?_
   refine pP rfl (kB h rfl trivial fun x29 h => ?_)
   refine st (v := .dat (.st _ _)) ?_
   refine dn (AWp.seq ?_)
   refine AWp.regionN (fun o => q00 [39] o) rfl ?_
   refine pP rfl (kB h rfl ⟨.inl rfl, trivial⟩ fun x31 h => ?_)
   refine dn ?_
   refine AWp.regionN (fun o => q00 [101] o) rfl ?_
   refine pP rfl (kB h rfl trivial fun x33 h => ?_)
   refine dn ?_
   exact ⟨⟨x33, x29.1⟩, h, sl⟩
  refine AWp.seq ?_
  obtain ⟨J45, h, hk46⟩ := h
  refine AWp.cutK (I := fun p : Bool => mkSt [(0, .pt 1000000 [] 0), (2, .pt 2 [] 0), (3, .pt 3 [] 0), (28, .dat (.v (.bool p)))] [(2, .box 26 9 (.dat (GTree.out GTree.zero))), (3, .box 26 9 (.dat (GTree.out GTree.zero))), (1000000, .box 45 5 (.dat (Gref13P.enc x1)))]) (Inv := fun p : Bool => J45 p) ?_ (fun p hp => ?_)
  ·refine rN (pP rfl (pP rfl (pP rfl (pI rfl (pB rfl (pB rfl (sB 23 h (fun h => ?_) (fun h => ?_))))))))
   ·refine pP rfl (kR h rfl trivial fun x39 h => ?_)
    refine pI rfl (pB rfl (pB rfl (dn ?_)))
    exact ⟨(x39.Kind == (3 : Int)), h, sl⟩
   refine fo 4 rfl (pB rfl (dn ?_))
   exact ⟨false, h, sl⟩
  replace h := hk46 p hp
  revert h; clear hp; generalize p = x37; intro h
  refine cB h (fun h => ?_) (fun h => ?_)
  ·refine AWp.seq ?_
   refine AWp.regionN (fun o => q00 [102] o) rfl ?_
   refine pP rfl (kB h rfl ⟨.inl rfl, .inl rfl, trivial⟩ fun x41 h => ?_)
   refine dn (rW (pP rfl (st (v := .dat (.v (.int _ _))) ?_)))
   refine dn ?_
   exact ⟨⟨x41.2, ({ GTree.zero with Kind := (20 : Int) })⟩, h, sl⟩
  refine sW (pP rfl (st (v := .dat (.v (.int _ _))) ?_))
  refine dn ?_
  refine AWp.regionN (fun o => q00 [37] o) rfl ?_
  refine pP rfl (kB h rfl trivial fun x43 h => ?_)
  refine pP rfl (st (v := .dat (.v (.string _))) ?_)
  refine dn ?_
  exact ⟨⟨x43.2, ({ GTree.zero with Kind := (21 : Int), Name := x43.1 })⟩, h, sl⟩
 obtain ⟨x24, x25⟩ := p
 replace h := hk89 x24 x25 hp
 refine AWp.seq (AWp.seq ?_)
 refine AWp.regionN (fun o => q00 [36] o) rfl ?_
 refine pP rfl (kB h rfl ⟨.inl rfl, trivial⟩ fun x47 h => ?_)
 refine pB rfl (dn (cB h (fun h => ?_) (fun h => ?_)))
 ·refine sW (pT rfl (st (v := .dat (.st _ _)) ?_))
  subst h; exact dn (AWp.ret ⟨_, rfl, rfl, rfl⟩)
 refine AWp.skip (AWp.seq (rW (pT rfl (al0 ?_))))
 refine st (v := .dat (.st _ _)) ?_
 refine dn (AWp.seq (AWp.seq (rN (pP rfl (kR h rfl ⟨.inl rfl, trivial⟩ fun x49 h => ?_)))))
 refine dn ?_
 obtain ⟨J86, h, hk87⟩ := h
 refine AWp.cutK (I := fun p : Gref13P × GRat => mkSt [(0, .pt 1000000 [] 0), (2, .pt 2 [] 0), (3, .pt 3 [] 0), (4, .pt 4 [] 0)] [(2, .box 26 9 (.dat (GTree.out GTree.zero))), (3, .box 26 9 (.dat (GTree.out x25))), (4, .box 23 2 (.dat (GRat.enc p.2))), (1000000, .box 45 5 (.dat (Gref13P.enc p.1)))]) (Inv := fun p : Gref13P × GRat => J86 p.1 p.2) ?_ (fun p hp => ?_)
 ·refine cB h (fun h => ?_) (fun h => ?_)
  ·refine AWp.seq ?_
   refine AWp.regionN (fun o => q00 [100] o) rfl ?_
   refine pP rfl (kB h rfl ⟨.inl rfl, trivial⟩ fun x70 h => ?_)
   refine dn (AWp.seq ?_)
   refine AWp.regionN (fun o => q00 [103] o) rfl ?_
   refine pP rfl (kB h rfl trivial fun x72 h => ?_)
   refine pI rfl (dn (AWp.seq ?_))
   refine AWp.regionN (fun o => q00 [39] o) rfl ?_
   refine pP rfl (kB h rfl ⟨.inl rfl, trivial⟩ fun x74 h => ?_)
   refine dn (AWp.seq ?_)
   refine AWp.regionN (fun o => q00 [102] o) rfl ?_
   refine pP rfl (kB h rfl ⟨.inl rfl, .inl rfl, trivial⟩ fun x76 h => ?_)
   refine pI rfl (dn (AWp.seq ?_))
   refine AWp.regionN (fun o => q00 [39] o) rfl ?_
   refine pP rfl (kB h rfl ⟨.inl rfl, trivial⟩ fun x78 h => ?_)
   refine dn (AWp.seq ?_)
   refine AWp.regionN (fun o => q00 [101] o) rfl ?_
   refine pP rfl (kB h rfl trivial fun x80 h => ?_)
   refine dn (sN (pP rfl (pP rfl (pP rfl (pI rfl (pB rfl (dn (cB h (fun h => ?_) (fun h => ?_)))))))))
   ·refine rW (pI rfl (pI rfl (kC h rfl ⟨.inl rfl, .inl rfl, trivial⟩ rfl fun x82 h => ?_)))
    refine pU rfl (pT rfl (pI rfl (st (v := .dat (.st _ _)) ?_)))
    refine dn ?_
    exact ⟨⟨x80, x82.1⟩, h, sl⟩
   refine AWp.skip ?_
   exact ⟨⟨x80, ({ GRat.zero with D := (1 : Int) })⟩, h, sl⟩
  refine AWp.regionN (fun o => q00 [103] o) rfl ?_
  refine pP rfl (kB h rfl trivial fun x84 h => ?_)
  refine pP rfl (st (v := .dat (.v (.int _ _))) ?_)
  refine dn ?_
  exact ⟨⟨x84.2, (GRat.mk x84.1 (1 : Int))⟩, h, sl⟩
 obtain ⟨x67, x68⟩ := p
 replace h := hk87 x67 x68 hp
 refine sW (pT rfl (pT rfl ?_))
 refine AOps.lit q01 (ys := [GTree.out x25]) rfl rfl rfl rfl rfl rfl ?_
 rw [show [GTree.out x25] = List.map GTree.enc [x25] by simp [GTree.enc_out]]
 refine pT rfl (st (v := .dat (.st _ _)) ?_)
 subst h; exact dn (AWp.ret ⟨_, rfl, rfl, rfl⟩)
def q9r (p1 : Gref13P) (e2 : Int) (Q : Gref13P -> Prop) : Prop :=
 Br (p1.Bad == (0 : Int)) (
 Call (q12 ({ p1 with Bad := e2 })) fun x3 =>
 Q ({ p1 with Bad := e2, At := x3.At })) (
 Q p1)
theorem qFt {p1 : Gref13P} {e2 : Int} {r : Gref13P} (h : q9r p1 e2 (fun r' => r' = r)) : q1v p1 e2 r := by
 unfold q9r at h
 refine AFnB.intro' (L := [(1, .dat (.v (.int .i64 e2)))]) q01 Tryz.func68 rfl rfl Tryz.ntmps68 rfl rfl rfl (fun b => ?_)
 refine sN (pP rfl (pP rfl (pP rfl (pI rfl (pB rfl (dn (cB h (fun h => ?_) (fun h => ?_))))))))
 ·refine sW (pP rfl (pI rfl (pP rfl (pP rfl (st (v := .dat (.v (.int _ _))) ?_)))))
  refine dn (rW (pP rfl (pP rfl (kR h rfl trivial fun x3 h => ?_))))
  refine pI rfl (pP rfl (pP rfl (st (v := .dat (.v (.int _ _))) ?_)))
  refine dn ?_
  subst h
  exact ⟨_, rfl, rfl, rfl⟩
 refine AWp.skip ?_
 subst h
 exact ⟨_, rfl, rfl, rfl⟩
def q2i (p1 : Gref13P) (Q : GTree × Gref13P -> Prop) : Prop :=
 Call (q3a p1) fun x2 =>
 Loop2 x2.2 x2.1 (fun (p80 : Gref13P) (t81 : GTree) next82 =>
 q16 (fun j88 =>
 Call (q07 p80 (ByteArray.mk #[43])) fun x89 =>
 Br x89 (j88 true) (
 Call (q07 p80 (ByteArray.mk #[45])) fun x91 =>
 j88 x91)
 ) (fun (x87 : Bool) =>
 Br x87 (
 Call (q07 p80 (ByteArray.mk #[45])) fun x93 =>
 q16 (fun j96 =>
 Br x93 (j96 (9 : Int)) (
 j96 (8 : Int))
 ) (fun (k95 : Int) =>
 Let (IntKind.i64.wrap (p80.I + (1 : Int))) fun x97 =>
 Call (q3a ({ p80 with I := x97 })) fun x98 =>
 next82 x98.2 ({ GTree.zero with Kind := k95, Kids := [t81, x98.1] }))) (
 Q (t81, p80))))
theorem qFu {p1 : Gref13P} {r : GTree × Gref13P} (h : q2i p1 (fun r' => r' = r)) : q0m p1 r := by
 unfold q2i at h
 refine AFnB.intro' (L := []) q01 Tryz.func70 rfl rfl Tryz.ntmps70 rfl rfl rfl (fun b => ?_)
 refine sN (al0 ?_)
 refine dn (AWp.seq ?_)
 refine AWp.regionN (fun o => q00 [105] o) rfl ?_
 refine pP rfl (kB h rfl trivial fun x2 h => ?_)
 refine al0 ?_
 refine st (v := .dat (.st _ _)) ?_
 refine dn (AWp.seq (AWp.block ?_))
 obtain ⟨I104, x105, hz106, hr107⟩ := h
 refine AWp.loop (I := fun p : Gref13P × GTree => mkSt [(0, .pt 1000000 [] 0), (2, .pt 2 [] 0), (3, .pt 3 [] 0)] [(2, .box 26 9 (.dat (GTree.out GTree.zero))), (3, .box 26 9 (.dat (GTree.out p.2))), (1000000, .box 45 5 (.dat (Gref13P.enc p.1)))]) (Inv := fun p => I104 p.1 p.2) (μ := fun p => x105 p.1 p.2) (x0 := ⟨x2.2, x2.1⟩) hz106 sl (fun p hp => ?_)
 obtain ⟨p80, t81⟩ := p
 have h := hr107 p80 t81 hp
 refine AWp.seq (AWp.seq ?_)
 obtain ⟨J102, h, hk103⟩ := h
 refine AWp.cutK (I := fun p : Bool => mkSt [(0, .pt 1000000 [] 0), (2, .pt 2 [] 0), (3, .pt 3 [] 0), (13, .dat (.v (.bool p)))] [(2, .box 26 9 (.dat (GTree.out GTree.zero))), (3, .box 26 9 (.dat (GTree.out t81))), (1000000, .box 45 5 (.dat (Gref13P.enc p80)))]) (Inv := fun p : Bool => J102 p) ?_ (fun p hp => ?_)
 ·refine rN (pP rfl (kR h rfl ⟨.inl rfl, trivial⟩ fun x89 h => ?_))
  refine pB rfl (sB 10 h (fun h => ?_) (fun h => ?_))
  ·refine ff rfl (ff rfl (pB rfl (dn ?_)))
   exact ⟨true, h, sl⟩
  refine pP rfl (kR h rfl ⟨.inl rfl, trivial⟩ fun x91 h => ?_)
  refine pB rfl (dn ?_)
  exact ⟨x91, h, sl⟩
 replace h := hk103 p hp
 revert h; clear hp; generalize p = x87; intro h
 refine cB h (fun h => ?_) (fun h => ?_)
 ·refine AWp.skip (AWp.block (AWp.seq (rN (pI rfl (dn (AWp.seq (AWp.seq (rN (pP rfl (kR h rfl ⟨.inl rfl, trivial⟩ fun x93 h => ?_))))))))))
  refine dn ?_
  obtain ⟨J100, h, hk101⟩ := h
  refine AWp.cutK (I := fun p : Int => mkSt [(0, .pt 1000000 [] 0), (2, .pt 2 [] 0), (3, .pt 3 [] 0), (4, .dat (.v (.int .i64 p)))] [(2, .box 26 9 (.dat (GTree.out GTree.zero))), (3, .box 26 9 (.dat (GTree.out t81))), (1000000, .box 45 5 (.dat (Gref13P.enc p80)))]) (Inv := fun p : Int => J100 p) ?_ (fun p hp => ?_)
  ·refine cB h (fun h => ?_) (fun h => ?_)
   ·refine rN (pI rfl (dn ?_))
    exact ⟨(9 : Int), h, sl⟩
   refine AWp.skip ?_
   exact ⟨(8 : Int), h, sl⟩
  replace h := hk101 p hp
  revert h; clear hp; generalize p = k95; intro h
  refine sW (pP rfl (pP rfl (pP rfl (pP rfl (pI rfl ?_)))))
  obtain ⟨x97, ex97, h⟩ := h.get
  refine ai ex97 rfl (pP rfl (pP rfl (st (v := .dat (.v (.int _ _))) ?_)))
  refine dn (AWp.seq ?_)
  refine AWp.regionN (fun o => q00 [105] o) rfl ?_
  refine pP rfl (kB h rfl trivial fun x98 h => ?_)
  refine al0 ?_
  refine st (v := .dat (.st _ _)) ?_
  refine dn (rW (pI rfl (pT rfl (pT rfl ?_))))
  refine AOps.lit q01 (ys := [GTree.out t81, GTree.out x98.1]) rfl rfl rfl rfl rfl rfl ?_
  rw [show [GTree.out t81, GTree.out x98.1] = List.map GTree.enc [t81, x98.1] by simp [GTree.enc_out]]
  refine pT rfl (st (v := .dat (.st _ _)) ?_)
  refine dn ?_
  exact ⟨⟨x98.2, ({ GTree.zero with Kind := k95, Kids := [t81, x98.1] })⟩, h.1, h.2, sl⟩
 refine AWp.exit ?_
 refine sW (pT rfl (st (v := .dat (.st _ _)) ?_))
 subst h; exact dn (AWp.ret ⟨_, rfl, rfl, rfl⟩)
def q3f (p1 : Gref13P) (Q : Int × Gref13P -> Prop) : Prop :=
 Call (q08 p1 (ByteArray.mk #[91])) fun x2 =>
 Br (!x2.1) (Q ((0 : Int), x2.2)) (
 Call (q0p x2.2 (0 : Int) (1000000 : Int)) fun x4 =>
 Call (q03 x4.2 (ByteArray.mk #[93])) fun x6 =>
 Q (x4.1, x6))
theorem qFv {p1 : Gref13P} {r : Int × Gref13P} (h : q3f p1 (fun r' => r' = r)) : q41 p1 r := by
 unfold q3f at h
 refine AFnB.intro' (L := []) q01 Tryz.func71 rfl rfl Tryz.ntmps71 rfl rfl rfl (fun b => ?_)
 refine sN (pI rfl (dn (AWp.seq (AWp.seq ?_))))
 refine AWp.regionN (fun o => q00 [36] o) rfl ?_
 refine pP rfl (kB h rfl ⟨.inl rfl, trivial⟩ fun x2 h => ?_)
 refine pB rfl (dn (cB h (fun h => ?_) (fun h => ?_)))
 ·refine sN (pI rfl (dn (AWp.ret ?_)))
  subst h
  exact ⟨_, rfl, rfl, rfl⟩
 refine AWp.skip (AWp.seq ?_)
 refine AWp.regionN (fun o => q00 [102] o) rfl ?_
 refine pP rfl (kB h rfl ⟨.inl rfl, .inl rfl, trivial⟩ fun x4 h => ?_)
 refine pI rfl (dn (AWp.seq ?_))
 refine AWp.regionN (fun o => q00 [39] o) rfl ?_
 refine pP rfl (kB h rfl ⟨.inl rfl, trivial⟩ fun x6 h => ?_)
 refine dn (sN (pI rfl (pI rfl (dn (AWp.ret ?_)))))
 subst h
 exact ⟨_, rfl, rfl, rfl⟩
def q2o (p1 : Gref13P) (Q : GTree × Gref13P -> Prop) : Prop :=
 Call (q37 p1) fun x2 =>
 Call (q08 x2.2 (ByteArray.mk #[61])) fun x4 =>
 Br x4.1 (
 Call (q0m x4.2) fun x8 =>
 Q (({ GTree.zero with Kind := (37 : Int), Kids := [x2.1, x8.1, x8.1] }), x8.2)) (
 Call (q03 x4.2 (ByteArray.mk #[105, 110])) fun x10 =>
 Call (q03 x10 (ByteArray.mk #[91])) fun x12 =>
 Call (q0m x12) fun x14 =>
 Call (q03 x14.2 (ByteArray.mk #[44])) fun x16 =>
 Call (q0m x16) fun x18 =>
 Call (q03 x18.2 (ByteArray.mk #[93])) fun x20 =>
 Q (({ GTree.zero with Kind := (37 : Int), Kids := [x2.1, x14.1, x18.1] }), x20))
theorem qEs {p1 : Gref13P} {r : GTree × Gref13P} (h : q2o p1 (fun r' => r' = r)) : q56 p1 r := by
 unfold q2o at h
 refine AFnB.intro' (L := []) q01 Tryz.func73 rfl rfl Tryz.ntmps73 rfl rfl rfl (fun b => ?_)
 refine sN (al0 ?_)
 refine dn (AWp.seq ?_)
 refine AWp.regionN (fun o => q00 [106] o) rfl ?_
 refine pP rfl (kB h rfl trivial fun x2 h => ?_)
 refine al0 ?_
 refine st (v := .dat (.st _ _)) ?_
 refine dn (AWp.seq (AWp.seq ?_))
 refine AWp.regionN (fun o => q00 [36] o) rfl ?_
 refine pP rfl (kB h rfl ⟨.inl rfl, trivial⟩ fun x4 h => ?_)
 refine dn (cB h (fun h => ?_) (fun h => ?_))
 ·refine AWp.seq ?_
  refine AWp.regionN (fun o => q00 [70] o) rfl ?_
  refine pP rfl (kB h rfl trivial fun x8 h => ?_)
  refine al0 ?_
  refine st (v := .dat (.st _ _)) ?_
  refine dn (sW (pT rfl (pT rfl (pT rfl ?_))))
  refine AOps.lit q01 (ys := [GTree.out x2.1, GTree.out x8.1, GTree.out x8.1]) rfl rfl rfl rfl rfl rfl ?_
  rw [show [GTree.out x2.1, GTree.out x8.1, GTree.out x8.1] = List.map GTree.enc [x2.1, x8.1, x8.1] by simp [GTree.enc_out]]
  refine pT rfl (st (v := .dat (.st _ _)) ?_)
  subst h; exact dn (AWp.ret ⟨_, rfl, rfl, rfl⟩)
 refine AWp.skip (AWp.seq ?_)
 refine AWp.regionN (fun o => q00 [39] o) rfl ?_
 refine pP rfl (kB h rfl ⟨.inl rfl, trivial⟩ fun x10 h => ?_)
 refine dn (AWp.seq ?_)
 refine AWp.regionN (fun o => q00 [39] o) rfl ?_
 refine pP rfl (kB h rfl ⟨.inl rfl, trivial⟩ fun x12 h => ?_)
 refine dn (AWp.seq ?_)
 refine AWp.regionN (fun o => q00 [70] o) rfl ?_
 refine pP rfl (kB h rfl trivial fun x14 h => ?_)
 refine al0 ?_
 refine st (v := .dat (.st _ _)) ?_
 refine dn (AWp.seq ?_)
 refine AWp.regionN (fun o => q00 [39] o) rfl ?_
 refine pP rfl (kB h rfl ⟨.inl rfl, trivial⟩ fun x16 h => ?_)
 refine dn (AWp.seq ?_)
 refine AWp.regionN (fun o => q00 [70] o) rfl ?_
 refine pP rfl (kB h rfl trivial fun x18 h => ?_)
 refine al0 ?_
 refine st (v := .dat (.st _ _)) ?_
 refine dn (AWp.seq ?_)
 refine AWp.regionN (fun o => q00 [39] o) rfl ?_
 refine pP rfl (kB h rfl ⟨.inl rfl, trivial⟩ fun x20 h => ?_)
 refine dn (sW (pT rfl (pT rfl (pT rfl ?_))))
 refine AOps.lit q01 (ys := [GTree.out x2.1, GTree.out x14.1, GTree.out x18.1]) rfl rfl rfl rfl rfl rfl ?_
 rw [show [GTree.out x2.1, GTree.out x14.1, GTree.out x18.1] = List.map GTree.enc [x2.1, x14.1, x18.1] by simp [GTree.enc_out]]
 refine pT rfl (st (v := .dat (.st _ _)) ?_)
 subst h; exact dn (AWp.ret ⟨_, rfl, rfl, rfl⟩)
def q2p (p1 : Gref13P) (s2 : ByteArray) (Q : Gref13P -> Prop) : Prop :=
 q16 (fun j6 =>
 Call (q07 p1 s2) fun x7 =>
 Br x7 (j6 (decide (p1.Open >= (60 : Int)))) (
 j6 false)
 ) (fun (x5 : Bool) =>
 q16 (fun j12 =>
 Br x5 (
 Call (q1v p1 (132 : Int)) fun x13 =>
 j12 x13) (
 j12 p1)
 ) (fun (p11 : Gref13P) =>
 Call (q03 p11 s2) fun x15 =>
 Let (IntKind.i64.wrap (x15.Open + (1 : Int))) fun x17 =>
 Q ({ x15 with Open := x17 })))
theorem qEt {p1 : Gref13P} {s2 : ByteArray} {r : Gref13P} (h : q2p p1 s2 (fun r' => r' = r)) : q0o p1 s2 r := by
 unfold q2p at h
 refine AFnB.intro' (L := [(1, .dat (.v (.string s2)))]) q01 Tryz.func100 rfl rfl Tryz.ntmps100 rfl rfl rfl (fun b => ?_)
 refine AWp.seq (AWp.seq ?_)
 obtain ⟨J20, h, hk21⟩ := h
 refine AWp.cutK (I := fun p : Bool => mkSt [(0, .pt 1000000 [] 0), (1, .dat (.v (.string s2))), (13, .dat (.v (.bool p)))] [(1000000, .box 45 5 (.dat (Gref13P.enc p1)))]) (Inv := fun p : Bool => J20 p) ?_ (fun p hp => ?_)
 ·refine rN (pP rfl (pG rfl (kR h rfl ⟨.inl rfl, trivial⟩ fun x7 h => ?_)))
  refine pB rfl (sB 7 h (fun h => ?_) (fun h => ?_))
  ·refine pP rfl (pP rfl (pP rfl (pI rfl (pB rfl (pB rfl (dn ?_))))))
   exact ⟨(decide (p1.Open >= (60 : Int))), h, sl⟩
  refine fo 5 rfl (pB rfl (dn ?_))
  exact ⟨false, h, sl⟩
 replace h := hk21 p hp
 revert h; clear hp; generalize p = x5; intro h
 obtain ⟨J18, h, hk19⟩ := h
 refine AWp.cutK (I := fun p : Gref13P => mkSt [(0, .pt 1000000 [] 0), (1, .dat (.v (.string s2)))] [(1000000, .box 45 5 (.dat (Gref13P.enc p)))]) (Inv := fun p : Gref13P => J18 p) ?_ (fun p hp => ?_)
 ·refine cB h (fun h => ?_) (fun h => ?_)
  ·refine AWp.regionN (fun o => q00 [68] o) rfl ?_
   refine pP rfl (kB h rfl ⟨.inl rfl, trivial⟩ fun x13 h => ?_)
   refine dn ?_
   exact ⟨x13, h, sl⟩
  refine AWp.skip ?_
  exact ⟨p1, h, sl⟩
 replace h := hk19 p hp
 revert h; clear hp; generalize p = p11; intro h
 refine AWp.seq ?_
 refine AWp.regionN (fun o => q00 [39] o) rfl ?_
 refine pP rfl (pG rfl (kB h rfl ⟨.inl rfl, trivial⟩ fun x15 h => ?_))
 refine dn (rW (pP rfl (pP rfl (pP rfl (pP rfl (pI rfl ?_))))))
 obtain ⟨x17, ex17, h⟩ := h.get
 refine ai ex17 rfl (pP rfl (pP rfl (st (v := .dat (.v (.int _ _))) ?_)))
 refine dn ?_
 subst h
 exact ⟨_, rfl, rfl, rfl⟩
def qAv (p1 : Gref13P) (Q : Gref13P -> Prop) : Prop :=
 Let (IntKind.i64.wrap (p1.Open - (1 : Int))) fun x2 =>
 Q ({ p1 with Open := x2 })
theorem qGw {p1 : Gref13P} {r : Gref13P} (h : qAv p1 (fun r' => r' = r)) : q0t p1 r := by
 unfold qAv at h
 refine AFnB.intro' (L := []) q01 Tryz.func101 rfl rfl Tryz.ntmps101 rfl rfl rfl (fun b => ?_)
 refine rW (pP rfl (pP rfl (pP rfl (pP rfl (pI rfl ?_)))))
 obtain ⟨x2, ex2, h⟩ := h.get
 refine ai ex2 rfl (pP rfl (pP rfl (st (v := .dat (.v (.int _ _))) ?_)))
 refine dn ?_
 subst h
 exact ⟨_, rfl, rfl, rfl⟩
def q2q (p1 : Gref13P) (least2 : Int) (most3 : Int) (Q : Int × Gref13P -> Prop) : Prop :=
 Br (p1.Bad != (0 : Int)) (Q ((0 : Int), p1)) (
 Call (q12 p1) fun x4 =>
 Br (x4.Kind != (3 : Int)) (
 Call (q1t p1) fun x8 =>
 Q ((0 : Int), x8)) (
 q16 (fun j11 =>
 Br (x4.Num.D != (1 : Int)) (j11 true) (
 Br (decide (x4.Num.N < least2)) (j11 true) (
 j11 (decide (x4.Num.N > most3))))
 ) (fun (x10 : Bool) =>
 Br x10 (
 Call (q1v p1 (110 : Int)) fun x14 =>
 Q ((0 : Int), x14)) (
 Let (IntKind.i64.wrap (p1.I + (1 : Int))) fun x16 =>
 Q (x4.Num.N, ({ p1 with I := x16 }))))))
theorem qEu {p1 : Gref13P} {least2 : Int} {most3 : Int} {r : Int × Gref13P} (h : q2q p1 least2 most3 (fun r' => r' = r)) : q0p p1 least2 most3 r := by
 unfold q2q at h
 refine AFnB.intro' (L := [(1, .dat (.v (.int .i64 least2))), (2, .dat (.v (.int .i64 most3)))]) q01 Tryz.func102 rfl rfl Tryz.ntmps102 rfl rfl rfl (fun b => ?_)
 refine sN (pI rfl (dn (AWp.seq (AWp.seq (rN (pP rfl (pP rfl (pP rfl (pI rfl (pB rfl (dn (cB h (fun h => ?_) (fun h => ?_)))))))))))))
 ·refine sN (pI rfl (dn (AWp.ret ?_)))
  subst h
  exact ⟨_, rfl, rfl, rfl⟩
 refine AWp.skip (AWp.seq (rW (pP rfl (kR h rfl trivial fun x4 h => ?_))))
 refine al0 ?_
 refine st (v := .dat (.st _ _)) ?_
 refine dn (AWp.seq (AWp.seq (rN (pP rfl (pI rfl (pB rfl (dn (cB h (fun h => ?_) (fun h => ?_)))))))))
 ·refine AWp.seq ?_
  refine AWp.regionN (fun o => q00 [40] o) rfl ?_
  refine pP rfl (kB h rfl trivial fun x8 h => ?_)
  refine dn (sN (pI rfl (dn (AWp.ret ?_))))
  subst h
  exact ⟨_, rfl, rfl, rfl⟩
 refine AWp.skip (AWp.seq (AWp.seq ?_))
 obtain ⟨J17, h, hk18⟩ := h
 refine AWp.cutK (I := fun p : Bool => mkSt [(0, .pt 1000000 [] 0), (7, .pt 7 [] 0), (37, .dat (.v (.bool p)))] [(7, .box 52 5 (.dat (GToken.enc x4))), (1000000, .box 45 5 (.dat (Gref13P.enc p1)))]) (Inv := fun p : Bool => J17 p) ?_ (fun p hp => ?_)
 ·refine rN (pP rfl (pP rfl (pI rfl (pB rfl (pB rfl (sB 24 h (fun h => ?_) (fun h => ?_)))))))
  ·refine fo 5 rfl (pB rfl (pB rfl (fo 5 rfl (pB rfl (dn ?_)))))
   exact ⟨true, h, sl⟩
  refine pP rfl (pP rfl (pI rfl (pI rfl (pB rfl (pB rfl (pB rfl (sB 31 h (fun h => ?_) (fun h => ?_))))))))
  ·refine fo 5 rfl (pB rfl (dn ?_))
   exact ⟨true, h, sl⟩
  refine pP rfl (pP rfl (pI rfl (pI rfl (pB rfl (pB rfl (dn ?_))))))
  exact ⟨(decide (x4.Num.N > most3)), h, sl⟩
 replace h := hk18 p hp
 revert h; clear hp; generalize p = x10; intro h
 refine cB h (fun h => ?_) (fun h => ?_)
 ·refine AWp.seq ?_
  refine AWp.regionN (fun o => q00 [68] o) rfl ?_
  refine pP rfl (kB h rfl ⟨.inl rfl, trivial⟩ fun x14 h => ?_)
  refine dn (sN (pI rfl (dn (AWp.ret ?_))))
  subst h
  exact ⟨_, rfl, rfl, rfl⟩
 refine AWp.skip (AWp.seq (rW (pP rfl (pP rfl (pP rfl (pP rfl (pI rfl ?_)))))))
 obtain ⟨x16, ex16, h⟩ := h.get
 refine ai ex16 rfl (pP rfl (pP rfl (st (v := .dat (.v (.int _ _))) ?_)))
 refine dn (sN (pP rfl (pP rfl (pI rfl (pI rfl (dn (AWp.ret ?_)))))))
 subst h
 exact ⟨_, rfl, rfl, rfl⟩
def q2r (p1 : Gref13P) (Q : Int × Gref13P -> Prop) : Prop :=
 Call (q08 p1 (ByteArray.mk #[45])) fun x2 =>
 Br x2.1 (
 Call (q0p x2.2 (0 : Int) (64 : Int)) fun x7 =>
 Let (IntKind.i64.wrap ((0 : Int) - x7.1)) fun x9 =>
 Q (x9, x7.2)) (
 Call (q0p x2.2 (0 : Int) (64 : Int)) fun x10 =>
 Q (x10.1, x10.2))
theorem qEv {p1 : Gref13P} {r : Int × Gref13P} (h : q2r p1 (fun r' => r' = r)) : q22 p1 r := by
 unfold q2r at h
 refine AFnB.intro' (L := []) q01 Tryz.func103 rfl rfl Tryz.ntmps103 rfl rfl rfl (fun b => ?_)
 refine sN (pI rfl (dn (AWp.seq (AWp.seq ?_))))
 refine AWp.regionN (fun o => q00 [36] o) rfl ?_
 refine pP rfl (kB h rfl ⟨.inl rfl, trivial⟩ fun x2 h => ?_)
 refine dn (cB h (fun h => ?_) (fun h => ?_))
 ·refine AWp.seq ?_
  refine AWp.regionN (fun o => q00 [102] o) rfl ?_
  refine pP rfl (kB h rfl ⟨.inl rfl, .inl rfl, trivial⟩ fun x7 h => ?_)
  obtain ⟨x9, ex9, h⟩ := h.get
  refine ai ex9 rfl (pI rfl (dn (AWp.ret ?_)))
  subst h
  exact ⟨_, rfl, rfl, rfl⟩
 refine AWp.skip (AWp.seq ?_)
 refine AWp.regionN (fun o => q00 [102] o) rfl ?_
 refine pP rfl (kB h rfl ⟨.inl rfl, .inl rfl, trivial⟩ fun x10 h => ?_)
 refine pI rfl (dn (AWp.ret ?_))
 subst h
 exact ⟨_, rfl, rfl, rfl⟩
def q34 (p1 : Gref13P) (Q : GTree × Gref13P -> Prop) : Prop :=
 Call (q3b p1) fun x2 =>
 Loop2 x2.2 x2.1 (fun (p80 : Gref13P) (t81 : GTree) next82 =>
 q16 (fun j88 =>
 Call (q07 p80 (ByteArray.mk #[42])) fun x89 =>
 Br x89 (j88 true) (
 Call (q07 p80 (ByteArray.mk #[47])) fun x91 =>
 j88 x91)
 ) (fun (x87 : Bool) =>
 Br x87 (
 Call (q07 p80 (ByteArray.mk #[47])) fun x93 =>
 q16 (fun j96 =>
 Br x93 (j96 (11 : Int)) (
 j96 (10 : Int))
 ) (fun (k95 : Int) =>
 Let (IntKind.i64.wrap (p80.I + (1 : Int))) fun x97 =>
 Call (q3b ({ p80 with I := x97 })) fun x98 =>
 next82 x98.2 ({ GTree.zero with Kind := k95, Kids := [t81, x98.1] }))) (
 Q (t81, p80))))
theorem qGx {p1 : Gref13P} {r : GTree × Gref13P} (h : q34 p1 (fun r' => r' = r)) : q3a p1 r := by
 unfold q34 at h
 refine AFnB.intro' (L := []) q01 Tryz.func105 rfl rfl Tryz.ntmps105 rfl rfl rfl (fun b => ?_)
 refine sN (al0 ?_)
 refine dn (AWp.seq ?_)
 refine AWp.regionN (fun o => q00 [131] o) rfl ?_
 refine pP rfl (kB h rfl trivial fun x2 h => ?_)
 refine al0 ?_
 refine st (v := .dat (.st _ _)) ?_
 refine dn (AWp.seq (AWp.block ?_))
 obtain ⟨I104, x105, hz106, hr107⟩ := h
 refine AWp.loop (I := fun p : Gref13P × GTree => mkSt [(0, .pt 1000000 [] 0), (2, .pt 2 [] 0), (3, .pt 3 [] 0)] [(2, .box 26 9 (.dat (GTree.out GTree.zero))), (3, .box 26 9 (.dat (GTree.out p.2))), (1000000, .box 45 5 (.dat (Gref13P.enc p.1)))]) (Inv := fun p => I104 p.1 p.2) (μ := fun p => x105 p.1 p.2) (x0 := ⟨x2.2, x2.1⟩) hz106 sl (fun p hp => ?_)
 obtain ⟨p80, t81⟩ := p
 have h := hr107 p80 t81 hp
 refine AWp.seq (AWp.seq ?_)
 obtain ⟨J102, h, hk103⟩ := h
 refine AWp.cutK (I := fun p : Bool => mkSt [(0, .pt 1000000 [] 0), (2, .pt 2 [] 0), (3, .pt 3 [] 0), (13, .dat (.v (.bool p)))] [(2, .box 26 9 (.dat (GTree.out GTree.zero))), (3, .box 26 9 (.dat (GTree.out t81))), (1000000, .box 45 5 (.dat (Gref13P.enc p80)))]) (Inv := fun p : Bool => J102 p) ?_ (fun p hp => ?_)
 ·refine rN (pP rfl (kR h rfl ⟨.inl rfl, trivial⟩ fun x89 h => ?_))
  refine pB rfl (sB 10 h (fun h => ?_) (fun h => ?_))
  ·refine ff rfl (ff rfl (pB rfl (dn ?_)))
   exact ⟨true, h, sl⟩
  refine pP rfl (kR h rfl ⟨.inl rfl, trivial⟩ fun x91 h => ?_)
  refine pB rfl (dn ?_)
  exact ⟨x91, h, sl⟩
 replace h := hk103 p hp
 revert h; clear hp; generalize p = x87; intro h
 refine cB h (fun h => ?_) (fun h => ?_)
 ·refine AWp.skip (AWp.block (AWp.seq (rN (pI rfl (dn (AWp.seq (AWp.seq (rN (pP rfl (kR h rfl ⟨.inl rfl, trivial⟩ fun x93 h => ?_))))))))))
  refine dn ?_
  obtain ⟨J100, h, hk101⟩ := h
  refine AWp.cutK (I := fun p : Int => mkSt [(0, .pt 1000000 [] 0), (2, .pt 2 [] 0), (3, .pt 3 [] 0), (4, .dat (.v (.int .i64 p)))] [(2, .box 26 9 (.dat (GTree.out GTree.zero))), (3, .box 26 9 (.dat (GTree.out t81))), (1000000, .box 45 5 (.dat (Gref13P.enc p80)))]) (Inv := fun p : Int => J100 p) ?_ (fun p hp => ?_)
  ·refine cB h (fun h => ?_) (fun h => ?_)
   ·refine rN (pI rfl (dn ?_))
    exact ⟨(11 : Int), h, sl⟩
   refine AWp.skip ?_
   exact ⟨(10 : Int), h, sl⟩
  replace h := hk101 p hp
  revert h; clear hp; generalize p = k95; intro h
  refine sW (pP rfl (pP rfl (pP rfl (pP rfl (pI rfl ?_)))))
  obtain ⟨x97, ex97, h⟩ := h.get
  refine ai ex97 rfl (pP rfl (pP rfl (st (v := .dat (.v (.int _ _))) ?_)))
  refine dn (AWp.seq ?_)
  refine AWp.regionN (fun o => q00 [131] o) rfl ?_
  refine pP rfl (kB h rfl trivial fun x98 h => ?_)
  refine al0 ?_
  refine st (v := .dat (.st _ _)) ?_
  refine dn (rW (pI rfl (pT rfl (pT rfl ?_))))
  refine AOps.lit q01 (ys := [GTree.out t81, GTree.out x98.1]) rfl rfl rfl rfl rfl rfl ?_
  rw [show [GTree.out t81, GTree.out x98.1] = List.map GTree.enc [t81, x98.1] by simp [GTree.enc_out]]
  refine pT rfl (st (v := .dat (.st _ _)) ?_)
  refine dn ?_
  exact ⟨⟨x98.2, ({ GTree.zero with Kind := k95, Kids := [t81, x98.1] })⟩, h.1, h.2, sl⟩
 refine AWp.exit ?_
 refine sW (pT rfl (st (v := .dat (.st _ _)) ?_))
 subst h; exact dn (AWp.ret ⟨_, rfl, rfl, rfl⟩)
def q2s (p1 : Gref13P) (Q : GTree × Gref13P -> Prop) : Prop :=
 Call (q08 p1 (ByteArray.mk #[100, 101, 114])) fun x2 =>
 Br (!x2.1) (
 Call (q2g x2.2) fun x6 =>
 Q (x6.1, x6.2)) (
 Call (q0o x2.2 (ByteArray.mk #[40])) fun x8 =>
 Call (q2g x8) fun x10 =>
 Call (q03 x10.2 (ByteArray.mk #[41])) fun x12 =>
 Call (q0t x12) fun x14 =>
 Q (({ GTree.zero with Kind := (4 : Int), Kids := [x10.1] }), x14))
theorem qEw {p1 : Gref13P} {r : GTree × Gref13P} (h : q2s p1 (fun r' => r' = r)) : q37 p1 r := by
 unfold q2s at h
 refine AFnB.intro' (L := []) q01 Tryz.func106 rfl rfl Tryz.ntmps106 rfl rfl rfl (fun b => ?_)
 refine sN (al0 ?_)
 refine dn (AWp.seq (AWp.seq ?_))
 refine AWp.regionN (fun o => q00 [36] o) rfl ?_
 refine pP rfl (kB h rfl ⟨.inl rfl, trivial⟩ fun x2 h => ?_)
 refine pB rfl (dn (cB h (fun h => ?_) (fun h => ?_)))
 ·refine AWp.seq ?_
  refine AWp.regionN (fun o => q00 [107] o) rfl ?_
  refine pP rfl (kB h rfl trivial fun x6 h => ?_)
  refine st (v := .dat (.st _ _)) ?_
  subst h; exact dn (AWp.ret ⟨_, rfl, rfl, rfl⟩)
 refine AWp.skip (AWp.seq ?_)
 refine AWp.regionN (fun o => q00 [100] o) rfl ?_
 refine pP rfl (kB h rfl ⟨.inl rfl, trivial⟩ fun x8 h => ?_)
 refine dn (AWp.seq ?_)
 refine AWp.regionN (fun o => q00 [107] o) rfl ?_
 refine pP rfl (kB h rfl trivial fun x10 h => ?_)
 refine al0 ?_
 refine st (v := .dat (.st _ _)) ?_
 refine dn (AWp.seq ?_)
 refine AWp.regionN (fun o => q00 [39] o) rfl ?_
 refine pP rfl (kB h rfl ⟨.inl rfl, trivial⟩ fun x12 h => ?_)
 refine dn (AWp.seq ?_)
 refine AWp.regionN (fun o => q00 [101] o) rfl ?_
 refine pP rfl (kB h rfl trivial fun x14 h => ?_)
 refine dn (sW (pT rfl ?_))
 refine AOps.lit q01 (ys := [GTree.out x10.1]) rfl rfl rfl rfl rfl rfl ?_
 rw [show [GTree.out x10.1] = List.map GTree.enc [x10.1] by simp [GTree.enc_out]]
 refine pT rfl (st (v := .dat (.st _ _)) ?_)
 subst h; exact dn (AWp.ret ⟨_, rfl, rfl, rfl⟩)
def q35 (p1 : Gref13P) (Q : GTree × Gref13P -> Prop) : Prop :=
 Br (p1.Bad != (0 : Int)) (Q (GTree.zero, p1)) (
 Call (q07 p1 (ByteArray.mk #[45])) fun x2 =>
 Br x2 (
 Call (q0o p1 (ByteArray.mk #[45])) fun x10 =>
 Call (q3b x10) fun x12 =>
 Call (q0t x12.2) fun x14 =>
 Q (({ GTree.zero with Kind := (7 : Int), Kids := [x12.1] }), x14)) (
 Call (q57 p1) fun x16 =>
 Call (q08 x16.2 (ByteArray.mk #[94])) fun x18 =>
 Br x18.1 (
 Call (q22 x18.2) fun x22 =>
 Q (({ GTree.zero with Kind := (12 : Int), N := x22.1, Kids := [x16.1] }), x22.2)) (
 Q (x16.1, x18.2))))
theorem qGy {p1 : Gref13P} {r : GTree × Gref13P} (h : q35 p1 (fun r' => r' = r)) : q3b p1 r := by
 unfold q35 at h
 refine AFnB.intro' (L := []) q01 Tryz.func131 rfl rfl Tryz.ntmps131 rfl rfl rfl (fun b => ?_)
 refine sN (al0 ?_)
 refine dn (AWp.seq (AWp.seq (rN (pP rfl (pP rfl (pP rfl (pI rfl (pB rfl (dn (cB h (fun h => ?_) (fun h => ?_)))))))))))
 ·refine sW (pT rfl (st (v := .dat (.st _ _)) ?_))
  subst h; exact dn (AWp.ret ⟨_, rfl, rfl, rfl⟩)
 refine AWp.skip (AWp.seq (AWp.seq (rN (pP rfl (kR h rfl ⟨.inl rfl, trivial⟩ fun x2 h => ?_)))))
 refine dn (cB h (fun h => ?_) (fun h => ?_))
 ·refine AWp.seq ?_
  refine AWp.regionN (fun o => q00 [100] o) rfl ?_
  refine pP rfl (kB h rfl ⟨.inl rfl, trivial⟩ fun x10 h => ?_)
  refine dn (AWp.seq ?_)
  refine AWp.regionN (fun o => q00 [131] o) rfl ?_
  refine pP rfl (kB h rfl trivial fun x12 h => ?_)
  refine al0 ?_
  refine st (v := .dat (.st _ _)) ?_
  refine dn (AWp.seq ?_)
  refine AWp.regionN (fun o => q00 [101] o) rfl ?_
  refine pP rfl (kB h rfl trivial fun x14 h => ?_)
  refine dn (sW (pT rfl ?_))
  refine AOps.lit q01 (ys := [GTree.out x12.1]) rfl rfl rfl rfl rfl rfl ?_
  rw [show [GTree.out x12.1] = List.map GTree.enc [x12.1] by simp [GTree.enc_out]]
  refine pT rfl (st (v := .dat (.st _ _)) ?_)
  subst h; exact dn (AWp.ret ⟨_, rfl, rfl, rfl⟩)
 refine AWp.skip (AWp.seq ?_)
 refine AWp.regionN (fun o => q00 [153] o) rfl ?_
 refine pP rfl (kB h rfl trivial fun x16 h => ?_)
 refine al0 ?_
 refine st (v := .dat (.st _ _)) ?_
 refine dn (AWp.seq (AWp.seq ?_))
 refine AWp.regionN (fun o => q00 [36] o) rfl ?_
 refine pP rfl (kB h rfl ⟨.inl rfl, trivial⟩ fun x18 h => ?_)
 refine dn (cB h (fun h => ?_) (fun h => ?_))
 ·refine rF (fun o => q00 [103] o) [(0, [1000000]), (4, [4]), (26, [1000000])] (pP rfl (kB h rfl trivial fun x22 h => ?_))
  refine pT rfl ?_
  refine AOps.lit q01 (ys := [GTree.out x16.1]) rfl rfl rfl rfl rfl rfl ?_
  rw [show [GTree.out x16.1] = List.map GTree.enc [x16.1] by simp [GTree.enc_out]]
  refine pT rfl (st (v := .dat (.st _ _)) ?_)
  refine dn (sW (pT rfl (st (v := .dat (.st _ _)) ?_)))
  subst h; exact dn (AWp.ret ⟨_, rfl, rfl, rfl⟩)
 refine AWp.skip (AWp.seq (rW (pT rfl (st (v := .dat (.st _ _)) ?_))))
 subst h; exact dn (AWp.ret ⟨_, rfl, rfl, rfl⟩)
def q5s (x1 : Gref13P) (Q : GTree × Gref13P -> Prop) : Prop :=
 Call (q0l x1) fun x2 =>
 Call (q08 x2.2 (ByteArray.mk #[91])) fun x4 =>
 Br (!x4.1) (Q (({ GTree.zero with Kind := (3 : Int), Name := x2.1 }), x4.2)) (
 q16 (fun j9 =>
 Br (x4.2.Bad == (0 : Int)) (
 Call (q12 x4.2) fun x10 =>
 j9 (x10.Kind == (3 : Int))) (
 j9 false)
 ) (fun (x8 : Bool) =>
 Br x8 (
 Call (q2h x4.2) fun x16 =>
 Call (q03 x16.2 (ByteArray.mk #[93])) fun x18 =>
 Q (({ GTree.zero with Kind := (3 : Int), Name := x2.1, Kids := [x16.1] }), x18)) (
 Call (q0l x4.2) fun x20 =>
 q16 (fun j27 =>
 Call (q07 x20.2 (ByteArray.mk #[43])) fun x28 =>
 Br x28 (j27 true) (
 Call (q07 x20.2 (ByteArray.mk #[45])) fun x30 =>
 j27 x30)
 ) (fun (x26 : Bool) =>
 q3r (fun j43 =>
 Br x26 (
 Call (q07 x20.2 (ByteArray.mk #[45])) fun x44 =>
 q16 (fun j47 =>
 Br x44 (j47 (9 : Int)) (
 j47 (8 : Int))
 ) (fun (x46 : Int) =>
 Let (IntKind.i64.wrap (x20.2.I + (1 : Int))) fun x48 =>
 Call (q2h ({ x20.2 with I := x48 })) fun x49 =>
 j43 x49.2 ({ GTree.zero with Kind := x46, Kids := [({ GTree.zero with Kind := (2 : Int), Kids := [({ GTree.zero with Kind := (3 : Int), Name := x20.1 })] }), x49.1] }))) (
 j43 x20.2 ({ GTree.zero with Kind := (2 : Int), Kids := [({ GTree.zero with Kind := (3 : Int), Name := x20.1 })] }))
 ) (fun (x41 : Gref13P) (x42 : GTree) =>
 Call (q03 x41 (ByteArray.mk #[93])) fun x53 =>
 Q (({ GTree.zero with Kind := (3 : Int), Name := x2.1, Kids := [x42] }), x53))))))
theorem qIl {x1 : Gref13P} {r : GTree × Gref13P} (h : q5s x1 (fun r' => r' = r)) : q6a x1 r := by
 unfold q5s at h
 refine AFnB.intro' (L := []) q01 Tryz.func132 rfl rfl Tryz.ntmps132 rfl rfl rfl (fun b => ?_)
 refine sN (al0 ?_)
 refine dn (AWp.seq ?_)
 refine AWp.regionN (fun o => q00 [37] o) rfl ?_
 refine pP rfl (kB h rfl trivial fun x2 h => ?_)
 refine pT rfl (al0 ?_)
 refine st (v := .dat (.st _ _)) ?_
 refine dn (AWp.seq (AWp.seq ?_))
 refine AWp.regionN (fun o => q00 [36] o) rfl ?_
 refine pP rfl (kB h rfl ⟨.inl rfl, trivial⟩ fun x4 h => ?_)
 refine pB rfl (dn (cB h (fun h => ?_) (fun h => ?_)))
 ·refine sW (pT rfl (st (v := .dat (.st _ _)) ?_))
  subst h; exact dn (AWp.ret ⟨_, rfl, rfl, rfl⟩)
 refine AWp.skip (AWp.seq (AWp.seq ?_))
 obtain ⟨J59, h, hk60⟩ := h
 refine AWp.cutK (I := fun p : Bool => mkSt [(0, .pt 1000000 [] 0), (2, .pt 2 [] 0), (3, .pt 3 [] 0), (24, .dat (.v (.bool p)))] [(2, .box 26 9 (.dat (GTree.out GTree.zero))), (3, .box 26 9 (.dat (GTree.out ({ GTree.zero with Kind := (3 : Int), Name := x2.1 })))), (1000000, .box 45 5 (.dat (Gref13P.enc x4.2)))]) (Inv := fun p : Bool => J59 p) ?_ (fun p hp => ?_)
 ·refine rN (pP rfl (pP rfl (pP rfl (pI rfl (pB rfl (pB rfl (sB 19 h (fun h => ?_) (fun h => ?_))))))))
  ·refine pP rfl (kR h rfl trivial fun x10 h => ?_)
   refine pI rfl (pB rfl (pB rfl (dn ?_)))
   exact ⟨(x10.Kind == (3 : Int)), h, sl⟩
  refine fo 4 rfl (pB rfl (dn ?_))
  exact ⟨false, h, sl⟩
 replace h := hk60 p hp
 revert h; clear hp; generalize p = x8; intro h
 refine cB h (fun h => ?_) (fun h => ?_)
 ·refine AWp.seq ?_
  refine AWp.regionN (fun o => q00 [154] o) rfl ?_
  refine pP rfl (kB h rfl trivial fun x16 h => ?_)
  refine AOps.lit q01 (ys := [GTree.out x16.1]) rfl rfl rfl rfl rfl rfl ?_
  rw [show [GTree.out x16.1] = List.map GTree.enc [x16.1] by simp [GTree.enc_out]]
  refine pP rfl (st (v := .dat (.sl _ _ _)) ?_)
  refine dn (AWp.seq ?_)
  refine AWp.regionN (fun o => q00 [39] o) rfl ?_
  refine pP rfl (kB h rfl ⟨.inl rfl, trivial⟩ fun x18 h => ?_)
  refine dn (sW (pT rfl (st (v := .dat (.st _ _)) ?_)))
  subst h; exact dn (AWp.ret ⟨_, rfl, rfl, rfl⟩)
 refine AWp.skip (AWp.seq ?_)
 refine AWp.regionN (fun o => q00 [37] o) rfl ?_
 refine pP rfl (kB h rfl trivial fun x20 h => ?_)
 refine pT rfl ?_
 refine AOps.lit q01 (ys := [GTree.out ({ GTree.zero with Kind := (3 : Int), Name := x20.1 })]) rfl rfl rfl rfl rfl rfl ?_
 rw [show [GTree.out ({ GTree.zero with Kind := (3 : Int), Name := x20.1 })] = List.map GTree.enc [({ GTree.zero with Kind := (3 : Int), Name := x20.1 })] by simp [GTree.enc_out]]
 refine pT rfl (al0 ?_)
 refine st (v := .dat (.st _ _)) ?_
 refine dn (AWp.seq (AWp.seq ?_))
 obtain ⟨J57, h, hk58⟩ := h
 refine AWp.cutK (I := fun p : Bool => mkSt [(0, .pt 1000000 [] 0), (2, .pt 2 [] 0), (3, .pt 3 [] 0), (4, .pt 4 [] 0), (42, .dat (.v (.bool p)))] [(2, .box 26 9 (.dat (GTree.out GTree.zero))), (3, .box 26 9 (.dat (GTree.out ({ GTree.zero with Kind := (3 : Int), Name := x2.1 })))), (4, .box 26 9 (.dat (GTree.out ({ GTree.zero with Kind := (2 : Int), Kids := [({ GTree.zero with Kind := (3 : Int), Name := x20.1 })] })))), (1000000, .box 45 5 (.dat (Gref13P.enc x20.2)))]) (Inv := fun p : Bool => J57 p) ?_ (fun p hp => ?_)
 ·refine rN (pP rfl (kR h rfl ⟨.inl rfl, trivial⟩ fun x28 h => ?_))
  refine pB rfl (sB 39 h (fun h => ?_) (fun h => ?_))
  ·refine ff rfl (ff rfl (pB rfl (dn ?_)))
   exact ⟨true, h, sl⟩
  refine pP rfl (kR h rfl ⟨.inl rfl, trivial⟩ fun x30 h => ?_)
  refine pB rfl (dn ?_)
  exact ⟨x30, h, sl⟩
 replace h := hk58 p hp
 revert h; clear hp; generalize p = x26; intro h
 obtain ⟨J55, h, hk56⟩ := h
 refine AWp.cutK (I := fun p : Gref13P × GTree => mkSt [(0, .pt 1000000 [] 0), (2, .pt 2 [] 0), (3, .pt 3 [] 0), (4, .pt 4 [] 0)] [(2, .box 26 9 (.dat (GTree.out GTree.zero))), (3, .box 26 9 (.dat (GTree.out ({ GTree.zero with Kind := (3 : Int), Name := x2.1 })))), (4, .box 26 9 (.dat (GTree.out p.2))), (1000000, .box 45 5 (.dat (Gref13P.enc p.1)))]) (Inv := fun p : Gref13P × GTree => J55 p.1 p.2) ?_ (fun p hp => ?_)
 ·refine cB h (fun h => ?_) (fun h => ?_)
  ·refine sN (pI rfl (dn (AWp.seq (AWp.seq (rN (pP rfl (kR h rfl ⟨.inl rfl, trivial⟩ fun x44 h => ?_)))))))
   refine dn ?_
   obtain ⟨J51, h, hk52⟩ := h
   refine AWp.cutK (I := fun p : Int => mkSt [(0, .pt 1000000 [] 0), (2, .pt 2 [] 0), (3, .pt 3 [] 0), (4, .pt 4 [] 0), (5, .dat (.v (.int .i64 p)))] [(2, .box 26 9 (.dat (GTree.out GTree.zero))), (3, .box 26 9 (.dat (GTree.out ({ GTree.zero with Kind := (3 : Int), Name := x2.1 })))), (4, .box 26 9 (.dat (GTree.out ({ GTree.zero with Kind := (2 : Int), Kids := [({ GTree.zero with Kind := (3 : Int), Name := x20.1 })] })))), (1000000, .box 45 5 (.dat (Gref13P.enc x20.2)))]) (Inv := fun p : Int => J51 p) ?_ (fun p hp => ?_)
   ·refine cB h (fun h => ?_) (fun h => ?_)
    ·refine rN (pI rfl (dn ?_))
     exact ⟨(9 : Int), h, sl⟩
    refine AWp.skip ?_
    exact ⟨(8 : Int), h, sl⟩
   replace h := hk52 p hp
   revert h; clear hp; generalize p = x46; intro h
   refine sW (pP rfl (pP rfl (pP rfl (pP rfl (pI rfl ?_)))))
   obtain ⟨x48, ex48, h⟩ := h.get
   refine ai ex48 rfl (pP rfl (pP rfl (st (v := .dat (.v (.int _ _))) ?_)))
   refine dn (AWp.seq ?_)
   refine AWp.regionN (fun o => q00 [154] o) rfl ?_
   refine pP rfl (kB h rfl trivial fun x49 h => ?_)
   refine al0 ?_
   refine st (v := .dat (.st _ _)) ?_
   refine dn (rW (pI rfl (pT rfl (pT rfl ?_))))
   refine AOps.lit q01 (ys := [GTree.out ({ GTree.zero with Kind := (2 : Int), Kids := [({ GTree.zero with Kind := (3 : Int), Name := x20.1 })] }), GTree.out x49.1]) rfl rfl rfl rfl rfl rfl ?_
   rw [show [GTree.out ({ GTree.zero with Kind := (2 : Int), Kids := [({ GTree.zero with Kind := (3 : Int), Name := x20.1 })] }), GTree.out x49.1] = List.map GTree.enc [({ GTree.zero with Kind := (2 : Int), Kids := [({ GTree.zero with Kind := (3 : Int), Name := x20.1 })] }), x49.1] by simp [GTree.enc_out]]
   refine pT rfl (st (v := .dat (.st _ _)) ?_)
   refine dn ?_
   exact ⟨⟨x49.2, ({ GTree.zero with Kind := x46, Kids := [({ GTree.zero with Kind := (2 : Int), Kids := [({ GTree.zero with Kind := (3 : Int), Name := x20.1 })] }), x49.1] })⟩, h, sl⟩
  refine AWp.skip ?_
  exact ⟨⟨x20.2, ({ GTree.zero with Kind := (2 : Int), Kids := [({ GTree.zero with Kind := (3 : Int), Name := x20.1 })] })⟩, h, sl⟩
 obtain ⟨x41, x42⟩ := p
 replace h := hk56 x41 x42 hp
 refine sW (pT rfl ?_)
 refine AOps.lit q01 (ys := [GTree.out x42]) rfl rfl rfl rfl rfl rfl ?_
 rw [show [GTree.out x42] = List.map GTree.enc [x42] by simp [GTree.enc_out]]
 refine pP rfl (st (v := .dat (.sl _ _ _)) ?_)
 refine dn (AWp.seq ?_)
 refine AWp.regionN (fun o => q00 [39] o) rfl ?_
 refine pP rfl (kB h rfl ⟨.inl rfl, trivial⟩ fun x53 h => ?_)
 refine dn (sW (pT rfl (st (v := .dat (.st _ _)) ?_)))
 subst h; exact dn (AWp.ret ⟨_, rfl, rfl, rfl⟩)
def q2t (x1 : Gref13P) (Q : GTree × Gref13P -> Prop) : Prop :=
 Br (x1.Bad != (0 : Int)) (Q (GTree.zero, x1)) (
 Call (q12 x1) fun x2 =>
 Br (x2.Kind == (3 : Int)) (
 Call (q80 x2.Num) fun x11 =>
 Br (!x11) (
 Call (q1v x1 (110 : Int)) fun x15 =>
 Q (GTree.zero, x15)) (
 Let (IntKind.i64.wrap (x1.I + (1 : Int))) fun x17 =>
 Q (({ GTree.zero with Kind := (1 : Int), Num := x2.Num }), ({ x1 with I := x17 })))) (
 Call (q08 x1 (ByteArray.mk #[116, 105, 109, 101])) fun x18 =>
 Br x18.1 (Q (({ GTree.zero with Kind := (5 : Int) }), x18.2)) (
 Call (q07 x18.2 (ByteArray.mk #[40])) fun x20 =>
 Br x20 (
 Call (q0o x18.2 (ByteArray.mk #[40])) fun x30 =>
 Call (q0m x30) fun x32 =>
 Call (q03 x32.2 (ByteArray.mk #[41])) fun x34 =>
 Call (q0t x34) fun x36 =>
 Q (x32.1, x36)) (
 q16 (fun j41 =>
 Br (x2.Kind == (2 : Int)) (
 Call (q2n x2.S) fun x42 =>
 j41 (decide (x42 > (0 : Int)))) (
 j41 false)
 ) (fun (x40 : Bool) =>
 Br x40 (
 Let (IntKind.i64.wrap (x18.2.I + (1 : Int))) fun x55 =>
 Call (q0o ({ x18.2 with I := x55 }) (ByteArray.mk #[40])) fun x56 =>
 Call (q0m x56) fun x58 =>
 Call (q03 x58.2 (ByteArray.mk #[41])) fun x60 =>
 Call (q0t x60) fun x62 =>
 Call (q2n x2.S) fun x64 =>
 Q (({ GTree.zero with Kind := (6 : Int), N := x64, Kids := [x58.1] }), x62)) (
 Call (q37 x18.2) fun x66 =>
 Q (x66.1, x66.2)))))))
theorem qEx {x1 : Gref13P} {r : GTree × Gref13P} (h : q2t x1 (fun r' => r' = r)) : q57 x1 r := by
 unfold q2t at h
 refine AFnB.intro' (L := []) q01 Tryz.func153 rfl rfl Tryz.ntmps153 rfl rfl rfl (fun b => ?_)
 refine sN (al0 ?_)
 refine dn (AWp.seq (AWp.seq (rN (pP rfl (pP rfl (pP rfl (pI rfl (pB rfl (dn (cB h (fun h => ?_) (fun h => ?_)))))))))))
 ·refine sW (pT rfl (st (v := .dat (.st _ _)) ?_))
  subst h; exact dn (AWp.ret ⟨_, rfl, rfl, rfl⟩)
 refine AWp.skip (AWp.seq (rW (pP rfl (kR h rfl trivial fun x2 h => ?_))))
 refine al0 ?_
 refine st (v := .dat (.st _ _)) ?_
 refine dn (AWp.seq (AWp.seq (rN (pP rfl (pI rfl (pB rfl (dn (cB h (fun h => ?_) (fun h => ?_)))))))))
 ·refine AWp.seq (AWp.seq (rN (pP rfl (pT rfl (kC h rfl ⟨.inl rfl, trivial⟩ rfl fun x11 h => ?_)))))
  refine pB rfl (dn (cB h (fun h => ?_) (fun h => ?_)))
  ·refine AWp.seq ?_
   refine AWp.regionN (fun o => q00 [68] o) rfl ?_
   refine pP rfl (kB h rfl ⟨.inl rfl, trivial⟩ fun x15 h => ?_)
   refine dn (sW (pT rfl (st (v := .dat (.st _ _)) ?_)))
   subst h; exact dn (AWp.ret ⟨_, rfl, rfl, rfl⟩)
  refine AWp.skip (AWp.seq (rW (pP rfl (pP rfl (pP rfl (pP rfl (pI rfl ?_)))))))
  obtain ⟨x17, ex17, h⟩ := h.get
  refine ai ex17 rfl (pP rfl (pP rfl (st (v := .dat (.v (.int _ _))) ?_)))
  refine dn (sW (pP rfl (pT rfl (pT rfl (st (v := .dat (.st _ _)) ?_)))))
  subst h; exact dn (AWp.ret ⟨_, rfl, rfl, rfl⟩)
 refine AWp.skip (AWp.seq (AWp.seq ?_))
 refine AWp.regionN (fun o => q00 [36] o) rfl ?_
 refine pP rfl (kB h rfl ⟨.inl rfl, trivial⟩ fun x18 h => ?_)
 refine dn (cB h (fun h => ?_) (fun h => ?_))
 ·refine sW (pT rfl (st (v := .dat (.st _ _)) ?_))
  subst h; exact dn (AWp.ret ⟨_, rfl, rfl, rfl⟩)
 refine AWp.skip (AWp.seq (AWp.seq (rN (pP rfl (kR h rfl ⟨.inl rfl, trivial⟩ fun x20 h => ?_)))))
 refine dn (cB h (fun h => ?_) (fun h => ?_))
 ·refine AWp.seq ?_
  refine AWp.regionN (fun o => q00 [100] o) rfl ?_
  refine pP rfl (kB h rfl ⟨.inl rfl, trivial⟩ fun x30 h => ?_)
  refine dn (AWp.seq ?_)
  refine AWp.regionN (fun o => q00 [70] o) rfl ?_
  refine pP rfl (kB h rfl trivial fun x32 h => ?_)
  refine al0 ?_
  refine st (v := .dat (.st _ _)) ?_
  refine dn (AWp.seq ?_)
  refine AWp.regionN (fun o => q00 [39] o) rfl ?_
  refine pP rfl (kB h rfl ⟨.inl rfl, trivial⟩ fun x34 h => ?_)
  refine dn (AWp.seq ?_)
  refine AWp.regionN (fun o => q00 [101] o) rfl ?_
  refine pP rfl (kB h rfl trivial fun x36 h => ?_)
  refine dn (sW (pT rfl (st (v := .dat (.st _ _)) ?_)))
  subst h; exact dn (AWp.ret ⟨_, rfl, rfl, rfl⟩)
 refine AWp.skip (AWp.seq (AWp.seq ?_))
 obtain ⟨J68, h, hk69⟩ := h
 refine AWp.cutK (I := fun p : Bool => mkSt [(0, .pt 1000000 [] 0), (2, .pt 2 [] 0), (3, .pt 3 [] 0), (57, .dat (.v (.bool p)))] [(2, .box 26 9 (.dat (GTree.out GTree.zero))), (3, .box 52 5 (.dat (GToken.enc x2))), (1000000, .box 45 5 (.dat (Gref13P.enc x18.2)))]) (Inv := fun p : Bool => J68 p) ?_ (fun p hp => ?_)
 ·refine rN (pP rfl (pI rfl (pB rfl (pB rfl (sB 52 h (fun h => ?_) (fun h => ?_))))))
  ·refine pP rfl (pG rfl (kC h rfl ⟨.inl rfl, trivial⟩ rfl fun x42 h => ?_))
   refine pB rfl (pB rfl (dn ?_))
   exact ⟨(decide (x42 > (0 : Int))), h, sl⟩
  refine fo 4 rfl (pB rfl (dn ?_))
  exact ⟨false, h, sl⟩
 replace h := hk69 p hp
 revert h; clear hp; generalize p = x40; intro h
 refine cB h (fun h => ?_) (fun h => ?_)
 ·refine sW (pP rfl (pP rfl (pP rfl (pP rfl (pI rfl ?_)))))
  obtain ⟨x55, ex55, h⟩ := h.get
  refine ai ex55 rfl (pP rfl (pP rfl (st (v := .dat (.v (.int _ _))) ?_)))
  refine dn (AWp.seq ?_)
  refine AWp.regionN (fun o => q00 [100] o) rfl ?_
  refine pP rfl (kB h rfl ⟨.inl rfl, trivial⟩ fun x56 h => ?_)
  refine dn (AWp.seq ?_)
  refine AWp.regionN (fun o => q00 [70] o) rfl ?_
  refine pP rfl (kB h rfl trivial fun x58 h => ?_)
  refine al0 ?_
  refine st (v := .dat (.st _ _)) ?_
  refine dn (AWp.seq ?_)
  refine AWp.regionN (fun o => q00 [39] o) rfl ?_
  refine pP rfl (kB h rfl ⟨.inl rfl, trivial⟩ fun x60 h => ?_)
  refine dn (AWp.seq ?_)
  refine AWp.regionN (fun o => q00 [101] o) rfl ?_
  refine pP rfl (kB h rfl trivial fun x62 h => ?_)
  refine dn (AWp.seq (rE [(2, [2]), (3, [3]), (5, [5]), (74, [3])] (pP rfl (pG rfl (kC h rfl ⟨.inl rfl, trivial⟩ rfl fun x64 h => ?_)))))
  refine pT rfl ?_
  refine AOps.lit q01 (ys := [GTree.out x58.1]) rfl rfl rfl rfl rfl rfl ?_
  rw [show [GTree.out x58.1] = List.map GTree.enc [x58.1] by simp [GTree.enc_out]]
  refine pT rfl (st (v := .dat (.st _ _)) ?_)
  subst h; exact dn (AWp.ret ⟨_, rfl, rfl, rfl⟩)
 refine AWp.skip (AWp.seq ?_)
 refine AWp.regionN (fun o => q00 [106] o) rfl ?_
 refine pP rfl (kB h rfl trivial fun x66 h => ?_)
 refine st (v := .dat (.st _ _)) ?_
 subst h; exact dn (AWp.ret ⟨_, rfl, rfl, rfl⟩)
def q4g (p1 : Gref13P) (Q : GTree × Gref13P -> Prop) : Prop :=
 Call (q0p p1 (0 : Int) (1000000 : Int)) fun x2 =>
 Q (({ GTree.zero with Kind := (1 : Int), Num := (GRat.mk x2.1 (1 : Int)) }), x2.2)
theorem qGz {p1 : Gref13P} {r : GTree × Gref13P} (h : q4g p1 (fun r' => r' = r)) : q2h p1 r := by
 unfold q4g at h
 refine AFnB.intro' (L := []) q01 Tryz.func154 rfl rfl Tryz.ntmps154 rfl rfl rfl (fun b => ?_)
 refine sN (al0 ?_)
 refine dn (AWp.seq ?_)
 refine AWp.regionN (fun o => q00 [102] o) rfl ?_
 refine pP rfl (kB h rfl ⟨.inl rfl, .inl rfl, trivial⟩ fun x2 h => ?_)
 refine pT rfl (pT rfl (st (v := .dat (.st _ _)) ?_))
 subst h; exact dn (AWp.ret ⟨_, rfl, rfl, rfl⟩)
def q6p (s1 : ByteArray) (Q : Bool -> Prop) : Prop :=
 Call (q9k s1) fun x2 =>
 Call (q9l s1) fun x4 =>
 Br (x2.2.1 == x4.2.1) (
 Br (x2.2.2 == x4.2.2) (
 Call (q5w x2.1 x4.1) fun x8 =>
 Q x8) (
 Q false)) (
 Q false)
theorem qC9 {s1 : ByteArray} {r : Bool} (h : q6p s1 (fun r' => r' = r)) : q8q s1 r := by
 unfold q6p at h
 refine intr (L := [(0, .dat (.v (.string s1)))]) Tryz.func3 Tryz.ntmps3 ?_
 refine sN (pB rfl (dn (AWp.seq (rW (pG rfl (kC h rfl ⟨.inl rfl, trivial⟩ rfl fun x2 h => ?_))))))
 refine pU rfl (pT rfl (pI rfl (pI rfl (al0 ?_))))
 refine st (v := .dat (.st _ _)) ?_
 refine pI rfl (pI rfl (dn (AWp.seq (rW (pG rfl (kC h rfl ⟨.inl rfl, trivial⟩ rfl fun x4 h => ?_))))))
 refine pU rfl (pT rfl (pI rfl (pI rfl (al0 ?_))))
 refine st (v := .dat (.st _ _)) ?_
 refine pI rfl (pI rfl (dn (AWp.seq (rN (pI rfl (pI rfl (pB rfl (pB rfl (sB 24 h (fun h => ?_) (fun h => ?_))))))))))
 ·refine pI rfl (pI rfl (pB rfl (pB rfl (pB rfl (sB 29 h (fun h => ?_) (fun h => ?_))))))
  ·refine pT rfl (pT rfl (kC h rfl ⟨.inl rfl, .inl rfl, trivial⟩ rfl fun x8 h => ?_))
   refine pB rfl (pB rfl (dn (AWp.ret ?_)))
   subst h
   exact ⟨_, rfl, rfl⟩
  refine fo 3 rfl (pB rfl (pB rfl (dn (AWp.ret ?_))))
  subst h
  exact ⟨_, rfl, rfl⟩
 refine fo 3 rfl (pB rfl (pB rfl (fo 3 rfl (pB rfl (pB rfl (dn (AWp.ret ?_)))))))
 subst h
 exact ⟨_, rfl, rfl⟩
def qAw (s1 : ByteArray) (Q : GTree × Int × Int -> Prop) : Prop :=
 Call (q9b s1) fun x2 =>
 Br (x2.2.1 != (0 : Int)) (Q (GTree.zero, x2.2.1, x2.2.2)) (
 Call (q5x ({ Gref13P.zero with L := x2.1 })) fun x4 =>
 Br (x4.2.Bad != (0 : Int)) (Q (GTree.zero, x4.2.Bad, x4.2.At)) (
 Call (q8d x4.1 (31 : Int)) fun x6 =>
 Br (decide (x6 > (30 : Int))) (Q (GTree.zero, (132 : Int), (0 : Int))) (
 Call (q7h x4.1 (4001 : Int)) fun x8 =>
 Br (decide (x8 > (4000 : Int))) (Q (GTree.zero, (2 : Int), (0 : Int))) (
 Q (x4.1, (0 : Int), (0 : Int))))))
theorem qH0 {s1 : ByteArray} {r : GTree × Int × Int} (h : qAw s1 (fun r' => r' = r)) : q9l s1 r := by
 unfold qAw at h
 refine intr (L := [(0, .dat (.v (.string s1)))]) Tryz.func5 Tryz.ntmps5 ?_
 refine sN (al0 ?_)
 refine pI rfl (pI rfl (dn (AWp.seq (rN (pG rfl (kC h rfl ⟨.inl rfl, trivial⟩ rfl fun x2 h => ?_))))))
 refine pU rfl (pS rfl (pI rfl (pI rfl (pS rfl (pI rfl (pI rfl (dn (AWp.seq (AWp.seq (rN (pI rfl (pB rfl (dn (cB h (fun h => ?_) (fun h => ?_)))))))))))))))
 ·refine sW (pT rfl (pI rfl (pI rfl (st (v := .dat (.st _ _)) ?_))))
  refine pI rfl (pI rfl (dn (AWp.ret ?_)))
  subst h
  exact ⟨_, rfl, rfl⟩
 refine AWp.skip (AWp.seq (rN (pS rfl (pT rfl (bx (v := .dat (.st _ _)) ?_)))))
 refine pP rfl (dn (AWp.seq ?_))
 refine AWp.regionN (fun o => q00 [13] o) rfl ?_
 refine pP rfl (kB h rfl trivial fun x4 h => ?_)
 refine al0 ?_
 refine st (v := .dat (.st _ _)) ?_
 refine dn (AWp.seq (AWp.seq (rN (pP rfl (pP rfl (pP rfl (pI rfl (pB rfl (dn (cB h (fun h => ?_) (fun h => ?_)))))))))))
 ·refine AWp.seq (rE [(2, [2]), (8, [23]), (32, [23]), (33, [23]), (34, [23]), (36, [23]), (37, [23]), (38, [23])] (pT rfl (pP rfl (pP rfl (pP rfl (pI rfl (pP rfl (pP rfl (pP rfl (pI rfl (st (v := .dat (.st _ _)) ?_)))))))))))
  refine pI rfl (pI rfl (dn (AWp.ret ?_)))
  subst h
  exact ⟨_, rfl, rfl⟩
 refine AWp.skip (AWp.seq (AWp.seq (rN (pT rfl (kC h rfl ⟨.inl rfl, .inl rfl, trivial⟩ rfl fun x6 h => ?_)))))
 refine pB rfl (dn (cB h (fun h => ?_) (fun h => ?_)))
 ·refine sW (pT rfl (st (v := .dat (.st _ _)) ?_))
  refine pI rfl (pI rfl (dn (AWp.ret ?_)))
  subst h
  exact ⟨_, rfl, rfl⟩
 refine AWp.skip (AWp.seq (AWp.seq (rN (pT rfl (kC h rfl ⟨.inl rfl, .inl rfl, trivial⟩ rfl fun x8 h => ?_)))))
 refine pB rfl (dn (cB h (fun h => ?_) (fun h => ?_)))
 ·refine sW (pT rfl (st (v := .dat (.st _ _)) ?_))
  refine pI rfl (pI rfl (dn (AWp.ret ?_)))
  subst h
  exact ⟨_, rfl, rfl⟩
 refine AWp.skip (AWp.seq (rW (pT rfl (st (v := .dat (.st _ _)) ?_))))
 refine pI rfl (pI rfl (dn (AWp.ret ?_)))
 subst h
 exact ⟨_, rfl, rfl⟩
def q83 (s1 : ByteArray) (Q : Int -> Prop) : Prop :=
 Loop1 (0 : Int) (fun (x38 : Int) next39 =>
 Br (decide (x38 < ((([(ByteArray.mk #[115, 113, 114, 116]), (ByteArray.mk #[101, 120, 112]), (ByteArray.mk #[108, 111, 103]), (ByteArray.mk #[115, 105, 110]), (ByteArray.mk #[99, 111, 115]), (ByteArray.mk #[97, 116, 97, 110])]).length : Nat) : Int))) (
 At ([(ByteArray.mk #[115, 113, 114, 116]), (ByteArray.mk #[101, 120, 112]), (ByteArray.mk #[108, 111, 103]), (ByteArray.mk #[115, 105, 110]), (ByteArray.mk #[99, 111, 115]), (ByteArray.mk #[97, 116, 97, 110])]) x38 fun x45 =>
 Br (s1.toList == x45.toList) (
 Let (IntKind.i64.wrap ((9 : Int) + x38)) fun x47 =>
 Q x47) (
 Let (IntKind.i64.wrap (x38 + (1 : Int))) fun x48 =>
 next39 x48)) (
 Q (0 : Int)))
theorem qE3 {s1 : ByteArray} {r : Int} (h : q83 s1 (fun r' => r' = r)) : q2n s1 r := by
 unfold q83 at h
 refine intr (L := [(0, .dat (.v (.string s1)))]) Tryz.func166 Tryz.ntmps166 ?_
 refine sN (pI rfl (dn (AWp.seq (AWp.seq (rN ?_)))))
 refine AOps.lit q01 (ys := [.v (.string (ByteArray.mk #[115, 113, 114, 116])), .v (.string (ByteArray.mk #[101, 120, 112])), .v (.string (ByteArray.mk #[108, 111, 103])), .v (.string (ByteArray.mk #[115, 105, 110])), .v (.string (ByteArray.mk #[99, 111, 115])), .v (.string (ByteArray.mk #[97, 116, 97, 110]))]) rfl rfl rfl rfl rfl rfl ?_
 refine al (((([(ByteArray.mk #[115, 113, 114, 116]), (ByteArray.mk #[101, 120, 112]), (ByteArray.mk #[108, 111, 103]), (ByteArray.mk #[115, 105, 110]), (ByteArray.mk #[99, 111, 115]), (ByteArray.mk #[97, 116, 97, 110])]).length : Nat) : Int)) rfl (pI rfl (dn (AWp.block ?_)))
 obtain ⟨I49, x50, hz51, hr52⟩ := h
 refine AWp.loop (I := fun p : Int => mkSt [(0, .dat (.v (.string s1))), (5, .dat (.sl 9 1 (List.map eStr [(ByteArray.mk #[115, 113, 114, 116]), (ByteArray.mk #[101, 120, 112]), (ByteArray.mk #[108, 111, 103]), (ByteArray.mk #[115, 105, 110]), (ByteArray.mk #[99, 111, 115]), (ByteArray.mk #[97, 116, 97, 110])]))), (6, .dat (.v (.int .i64 ((([(ByteArray.mk #[115, 113, 114, 116]), (ByteArray.mk #[101, 120, 112]), (ByteArray.mk #[108, 111, 103]), (ByteArray.mk #[115, 105, 110]), (ByteArray.mk #[99, 111, 115]), (ByteArray.mk #[97, 116, 97, 110])]).length : Nat) : Int)))), (7, .dat (.v (.int .i64 p)))] []) (Inv := fun p => I49 p) (μ := fun p => x50 p) (x0 := (0 : Int)) hz51 sl (fun p hp => ?_)
 have h := hr52 p hp
 revert h; clear hp; generalize p = x38; intro h
 refine sN (pW rfl (dn (AWp.seq (cB h (fun h => ?_) (fun h => ?_)))))
 ·refine AWp.skip (AWp.seq (AWp.block (AWp.seq (rN (pI rfl (kI h (q1g (e := eStr)) rfl rfl rfl rfl rfl rfl rfl fun x45 h => ?_))))))
  refine pG rfl (pI rfl (pG rfl (dn (AWp.seq (rN (pG rfl (pG rfl (pB rfl (dn (cB h (fun h => ?_) (fun h => ?_)))))))))))
  ·refine sN (pI rfl ?_)
   obtain ⟨x47, ex47, h⟩ := h.get
   refine ai ex47 rfl (pI rfl (dn (AWp.ret ?_)))
   subst h
   exact ⟨_, rfl, rfl⟩
  refine AWp.skip (rN ?_)
  obtain ⟨x48, ex48, h⟩ := h.get
  refine ai ex48 rfl (pI rfl (dn ?_))
  exact ⟨x48, h.1, h.2, sl⟩
 refine AWp.exit ?_
 refine sN (pI rfl (dn (AWp.ret ?_)))
 subst h
 exact ⟨_, rfl, rfl⟩
end Go.Sim.YtifjflhnfjhijaaGreatDoor
