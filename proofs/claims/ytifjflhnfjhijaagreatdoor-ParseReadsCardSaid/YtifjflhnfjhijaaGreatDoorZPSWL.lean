/- What is proved: functions of the program compute what plain statements tell. -/
import Derived.Test.YtifjflhnfjhijaaGreatDoorZPSWE

namespace Go.Sim.YtifjflhnfjhijaaGreatDoor
open Go.RowKit Go.Proofs Go.Proofs.Tryz
set_option maxRecDepth 100000
def qJb (s1 : ByteArray) (Q : (List GToken) × Int × Int -> Prop) : Prop :=
 Br (decide (((s1.size : Nat) : Int) > (20000 : Int))) (Q (([] : List GToken), (2 : Int), (0 : Int))) (
 Call (q9c) fun x2 =>
 Call (q2x ({ Glexlexer.zero with s_ := s1, words_ := x2 })) fun x4 =>
 Loop2 x4 ([] : List GToken) (fun (l47 : Glexlexer) (out48 : List GToken) next49 =>
 Br (decide (l47.at_ < ((s1.size : Nat) : Int))) (
 Br (decide (((out48.length : Nat) : Int) >= (4000 : Int))) (Q (([] : List GToken), (2 : Int), l47.at_)) (
 Call (q5y l47) fun x55 =>
 Br (x55.1.2 != (0 : Int)) (Q (([] : List GToken), x55.1.2, l47.at_)) (
 App 48 out48 ([x55.1.1]) fun x57 =>
 Call (q2x x55.2) fun x58 =>
 next49 x58 x57))) (
 App 48 out48 ([({ GToken.zero with At := ((s1.size : Nat) : Int) })]) fun x60 =>
 Q (x60, (0 : Int), (0 : Int)))))
theorem qMl {s1 : ByteArray} {r : (List GToken) × Int × Int} (h : qJb s1 (fun r' => r' = r)) : qD2 s1 r := by
 unfold qJb at h
 refine intr (L := [(0, .dat (.v (.string s1)))]) Tryz.func7 Tryz.ntmps7 ?_
 refine sN (pS rfl (pI rfl (pI rfl (dn (AWp.seq (AWp.seq (rN (pG rfl (pI rfl (pB rfl (dn (cB h (fun h => ?_) (fun h => ?_)))))))))))))
 ·refine sN (pS rfl (pI rfl (pI rfl (dn (AWp.ret ?_)))))
  subst h
  exact ⟨_, rfl, rfl⟩
 refine AWp.skip (AWp.seq (rN (pG rfl (kC h rfl trivial rfl fun x2 h => ?_))))
 refine pT rfl (bx (v := .dat (.st _ _)) ?_)
 refine pP rfl (dn (AWp.seq (rN ?_)))
 refine AOps.nilown q01 rfl rfl rfl rfl rfl rfl ?_
 refine dn (AWp.seq (AWp.seq ?_))
 refine AWp.regionN (fun o => q00 [17] o) rfl ?_
 refine pP rfl (kB h rfl trivial fun x4 h => ?_)
 refine dn (AWp.block ?_)
 obtain ⟨I61, x62, hz63, hr64⟩ := h
 refine AWp.loop (I := fun p : Glexlexer × (List GToken) => mkSt [(0, .dat (.v (.string s1))), (5, .pt 16 [] 0), (6, .oref 1006)] [(16, .box 50 3 (.dat (Glexlexer.enc p.1))), (1006, .row 52 5 (List.map GToken.enc p.2))]) (Inv := fun p => I61 p.1 p.2) (μ := fun p => x62 p.1 p.2) (x0 := ⟨x4, ([] : List GToken)⟩) hz63 (slf (fun i => (if Nat.beq i 1006 then 6 else i))) (fun p hp => ?_)
 obtain ⟨l47, out48⟩ := p
 have h := hr64 l47 out48 hp
 refine AWp.seq (AWp.seq (rN (pP rfl (pP rfl (pP rfl (pI rfl (pG rfl (pI rfl (pB rfl (dn (cB h (fun h => ?_) (fun h => ?_))))))))))))
 ·refine AWp.skip (AWp.seq (AWp.block (AWp.seq (rN (pP rfl (pP rfl (pP rfl (pI rfl (pI rfl (dn (AWp.seq (AWp.seq (rN (pO rfl (al (((out48.length : Nat) : Int)) rfl (pB rfl (dn (cB h (fun h => ?_) (fun h => ?_)))))))))))))))))))
  ·refine sN (pI rfl (pS rfl (pI rfl (pI rfl (dn (AWp.ret ?_))))))
   subst h
   exact ⟨_, rfl, rfl⟩
  refine AWp.skip (AWp.seq ?_)
  refine AWp.regionN (fun o => q00 [18] o) rfl ?_
  refine pP rfl (kB h rfl trivial fun x55 h => ?_)
  refine pU rfl (pT rfl (pI rfl (al0 ?_)))
  refine st (v := .dat (.st _ _)) ?_
  refine pI rfl (dn (AWp.seq (AWp.seq (rN (pI rfl (pB rfl (dn (cB h (fun h => ?_) (fun h => ?_)))))))))
  ·refine sN (pI rfl (pI rfl (pS rfl (pI rfl (pI rfl (dn (AWp.ret ?_)))))))
   subst h
   exact ⟨_, rfl, rfl⟩
  refine AWp.skip (rW (pO rfl (pT rfl ?_)))
  refine AOps.lit q01 (ys := [GToken.enc x55.1.1]) rfl rfl rfl rfl rfl rfl ?_
  obtain ⟨h1, h2, x57, ex57, h⟩ := h.get
  refine AOps.append q01 rfl rfl rfl rfl rfl rfl rfl rfl rfl rfl rfl (.inl ⟨_, rfl⟩) (app1 h1) (app2 h2) (app3 ex57) ?_
  refine pO rfl (dn ?_)
  refine AWp.regionN (fun o => q00 [17] o) rfl ?_
  refine pP rfl (kB h rfl trivial fun x58 h => ?_)
  refine dn ?_
  exact ⟨⟨x58, x57⟩, h.1, h.2, (slf (fun i => (if Nat.beq i 1006 then 48 else i)))⟩
 refine AWp.exit ?_
 refine sW (pO rfl (pG rfl (pI rfl (pT rfl ?_))))
 refine AOps.lit q01 (ys := [GToken.enc ({ GToken.zero with At := ((s1.size : Nat) : Int) })]) rfl rfl rfl rfl rfl rfl ?_
 obtain ⟨h1, h2, x60, ex60, h⟩ := h.get
 refine AOps.append q01 rfl rfl rfl rfl rfl rfl rfl rfl rfl rfl rfl (.inl ⟨_, rfl⟩) (app1 h1) (app2 h2) (app3 ex60) ?_
 refine pO rfl (pI rfl (pI rfl (dn (AWp.ret ?_))))
 subst h
 exact ⟨_, rfl, rfl⟩
def qEa (Q : List (ByteArray × Unit) -> Prop) : Prop :=
 Call (q9y (ByteArray.mk #[97, 116, 97, 110, 32, 99, 111, 110, 110, 101, 99, 116, 32, 99, 111, 110, 110, 101, 99, 116, 111, 114, 32, 99, 111, 115, 32, 100, 101, 114, 32, 100, 111, 32, 101, 110, 100, 32, 101, 120, 112, 32, 102, 108, 111, 119, 32, 102, 111, 114, 32, 105, 110, 32, 108, 111, 103, 32, 109, 111, 100, 101, 108, 32, 112, 97, 114, 97, 109, 32, 112, 97, 114, 116, 32, 115, 105, 110, 32, 115, 113, 114, 116, 32, 115, 116, 97, 114, 116, 32, 116, 105, 109, 101, 32, 117, 110, 105, 116, 32, 118, 97, 114])) fun x1 =>
 Loop2 ([] : List (ByteArray × Unit)) (0 : Int) (fun (m42 : List (ByteArray × Unit)) (x43 : Int) next44 =>
 Br (decide (x43 < ((x1.length : Nat) : Int))) (
 At x1 x43 fun x50 =>
 Let (mput m42 x50 ()) fun m52 =>
 Let (IntKind.i64.wrap (x43 + (1 : Int))) fun x53 =>
 next44 m52 x53) (
 Q m42))
theorem qK2 {r : List (ByteArray × Unit)} (h : qEa (fun r' => r' = r)) : q9c r := by
 unfold qEa at h
 refine intr (L := []) Tryz.func16 Tryz.ntmps16 ?_
 refine sN (pW rfl (dn (AWp.seq (rN ?_))))
 refine AOps.mkmap rfl rfl rfl rfl ?_
 refine pO rfl (dn (AWp.seq (AWp.seq (rN (kC h rfl ⟨.inl rfl, trivial⟩ rfl fun x1 h => ?_)))))
 refine al (((x1.length : Nat) : Int)) rfl (pI rfl (dn (AWp.block ?_)))
 obtain ⟨I54, x55, hz56, hr57⟩ := h
 refine AWp.loop (I := fun p : (List (ByteArray × Unit)) × Int => mkSt [(1, .oref 1001), (5, .dat (.sl 9 1 (List.map eStr x1))), (6, .dat (.v (.int .i64 ((x1.length : Nat) : Int)))), (7, .dat (.v (.int .i64 p.2)))] [(1001, .mp (List.map (fun e => (fun s : ByteArray => Value.string s) e.1) p.1) (List.map (fun e => (fun _ : Unit => DV.st [] []) e.2) p.1))]) (Inv := fun p => I54 p.1 p.2) (μ := fun p => x55 p.1 p.2) (x0 := ⟨([] : List (ByteArray × Unit)), (0 : Int)⟩) hz56 (slf (fun i => (if Nat.beq i 1001 then 4 else i))) (fun p hp => ?_)
 obtain ⟨m42, x43⟩ := p
 have h := hr57 m42 x43 hp
 refine sN (pW rfl (dn (AWp.seq (cB h (fun h => ?_) (fun h => ?_)))))
 ·refine AWp.skip (AWp.seq (AWp.block (AWp.seq (rN (kI h (q1g (e := eStr)) rfl rfl rfl rfl rfl rfl rfl fun x50 h => ?_)))))
  refine pG rfl (pG rfl (dn (rW (pO rfl (pG rfl (pT rfl ?_))))))
  obtain ⟨m52, em52, h⟩ := h.get
  refine AOps.insert q01 (ek := (fun s : ByteArray => Value.string s)) (ex := (fun _ : Unit => DV.st [] [])) qU9 ⟨9, Tryz.underlying47, Tryz.underlying9⟩ (.inr rfl) rfl rfl rfl rfl rfl rfl rfl (fun _ h => by cases h) em52 ?_
  refine dn (rN ?_)
  obtain ⟨x53, ex53, h⟩ := h.get
  refine ai ex53 rfl (pI rfl (dn ?_))
  exact ⟨⟨m52, x53⟩, h.1, h.2, sl⟩
 refine AWp.exit ?_
 refine sN (pO rfl (pO rfl (dn ?_)))
 refine AWp.freezemp 0 1001 rfl rfl ?_
 subst h; exact AWp.ret ⟨_, rfl, rfl⟩
def q6t (l1 : Glexlexer) (Q : Glexlexer -> Prop) : Prop :=
 Call (q0x l1 q29) fun x2 =>
 Loop1 x2 (fun (l19 : Glexlexer) next20 =>
 Call (q0n l19 (0 : Int)) fun x25 =>
 Br (x25 == (47 : Int)) (
 Call (q0n l19 (1 : Int)) fun x27 =>
 Br (x27 == (47 : Int)) (
 Call (q0x l19 q7q) fun x31 =>
 Call (q0x x31 q29) fun x33 =>
 next20 x33) (
 Q l19)) (
 Q l19))
theorem qCq {l1 : Glexlexer} {r : Glexlexer} (h : q6t l1 (fun r' => r' = r)) : q2x l1 r := by
 unfold q6t at h
 refine AFnB.intro' (L := []) q01 Tryz.func17 rfl rfl Tryz.ntmps17 rfl rfl rfl (fun b => ?_)
 refine sN ?_
 refine AOps.mv rfl rfl (.inr rfl) rfl ?_
 refine dn (AWp.seq ?_)
 refine AWp.regionN (fun o => q00 [45] o) rfl ?_
 refine pP rfl ?_
 refine AOps.mv rfl rfl (.inl rfl) rfl ?_
 refine kB h rfl ⟨.inl rfl, trivial⟩ fun x2 h => dn ?_
 refine AWp.block ?_
 obtain ⟨I35, x36, hz37, hr38⟩ := h
 refine AWp.loop (I := fun p : Glexlexer => mkSt [(0, .pt 1000000 [] 0), (2, .dat (q29))] [(1000000, .box 50 3 (.dat (Glexlexer.enc p)))]) (Inv := fun p => I35 p) (μ := fun p => x36 p) (x0 := x2) hz37 sl (fun p hp => ?_)
 have h := hr38 p hp
 revert h; clear hp; generalize p = l19; intro h
 refine AWp.seq (AWp.seq (rN (pP rfl (kR h rfl ⟨.inl rfl, trivial⟩ fun x25 h => ?_))))
 refine pB rfl (pB rfl (sB 9 h (fun h => ?_) (fun h => ?_)))
 ·refine pP rfl (kR h rfl ⟨.inl rfl, trivial⟩ fun x27 h => ?_)
  refine pB rfl (pB rfl (dn (cB h (fun h => ?_) (fun h => ?_))))
  ·refine AWp.skip (AWp.seq (AWp.block ?_))
   refine AWp.regionN (fun o => q00 [45] o) rfl ?_
   refine pP rfl (kB h rfl ⟨.inl rfl, trivial⟩ fun x31 h => ?_)
   refine dn ?_
   refine AWp.regionN (fun o => q00 [45] o) rfl ?_
   refine pP rfl ?_
   refine AOps.mv rfl rfl (.inl rfl) rfl ?_
   refine kB h rfl ⟨.inl rfl, trivial⟩ fun x33 h => dn ?_
   exact ⟨x33, h.1, h.2, sl⟩
  refine AWp.exit ?_
  subst h
  exact ⟨_, rfl, rfl, rfl⟩
 refine fo 3 rfl (pB rfl (dn ?_))
 refine AWp.condF rfl ?_
 refine AWp.exit ?_
 subst h
 exact ⟨_, rfl, rfl, rfl⟩
def q7f (l1 : Glexlexer) (Q : (GToken × Int) × Glexlexer -> Prop) : Prop :=
 Call (q0n l1 (0 : Int)) fun x2 =>
 Call (q8f x2) fun x14 =>
 Br x14 (
 Call (q75 l1) fun x16 =>
 Q ((x16.1.1, x16.1.2), x16.2)) (
 Call (q3y x2) fun x18 =>
 Br x18 (
 Call (q5a l1) fun x20 =>
 Q ((x20.1.1, x20.1.2), x20.2)) (
 Call (q4j (ByteArray.mk #[40, 41, 91, 93, 44, 59, 58, 46, 61, 43, 45, 42, 47, 94]) x2) fun x22 =>
 Br (decide (x22 < (0 : Int))) (Q ((GToken.zero, (120 : Int)), l1)) (
 q16 (fun j27 =>
 Br (x2 == (46 : Int)) (
 Call (q0n l1 (1 : Int)) fun x28 =>
 j27 (x28 == (46 : Int))) (
 j27 false)
 ) (fun (x26 : Bool) =>
 q16 (fun j31 =>
 Br x26 (j31 (2 : Int)) (
 j31 (1 : Int))
 ) (fun (n30 : Int) =>
 Let (IntKind.i64.wrap (l1.at_ + n30)) fun x32 =>
 SlS l1.s_ l1.at_ x32 fun x33 =>
 Let (IntKind.i64.wrap (l1.at_ + n30)) fun x34 =>
 Q ((({ GToken.zero with Kind := (4 : Int), S := x33, At := l1.at_ }), (0 : Int)), ({ l1 with at_ := x34 })))))))
theorem qDk {l1 : Glexlexer} {r : (GToken × Int) × Glexlexer} (h : q7f l1 (fun r' => r' = r)) : q5y l1 r := by
 unfold q7f at h
 refine AFnB.intro' (L := []) q01 Tryz.func18 rfl rfl Tryz.ntmps18 rfl rfl rfl (fun b => ?_)
 refine sN (al0 ?_)
 refine pI rfl (dn (AWp.seq (rN (pP rfl (kR h rfl ⟨.inl rfl, trivial⟩ fun x2 h => ?_)))))
 refine pI rfl (dn (AWp.seq (AWp.block (AWp.seq (rN (pI rfl (kC h rfl ⟨.inl rfl, trivial⟩ rfl fun x14 h => ?_)))))))
 refine pB rfl (dn (cB h (fun h => ?_) (fun h => ?_)))
 ·refine AWp.seq ?_
  refine AWp.regionN (fun o => q00 [49] o) rfl ?_
  refine pP rfl (kB h rfl trivial fun x16 h => ?_)
  refine pT rfl (pI rfl (st (v := .dat (.st _ _)) ?_))
  refine pI rfl (dn (AWp.ret ?_))
  subst h
  exact ⟨_, rfl, rfl, rfl⟩
 refine sN (pI rfl (kC h rfl ⟨.inl rfl, trivial⟩ rfl fun x18 h => ?_))
 refine pB rfl (dn (cB h (fun h => ?_) (fun h => ?_)))
 ·refine AWp.seq ?_
  refine AWp.regionN (fun o => q00 [51] o) rfl ?_
  refine pP rfl (kB h rfl trivial fun x20 h => ?_)
  refine pT rfl (pI rfl (st (v := .dat (.st _ _)) ?_))
  refine pI rfl (dn (AWp.ret ?_))
  subst h
  exact ⟨_, rfl, rfl, rfl⟩
 refine sN (pI rfl (kC h rfl ⟨.inl rfl, .inl rfl, trivial⟩ rfl fun x22 h => ?_))
 refine pB rfl (pB rfl (dn (cB h (fun h => ?_) (fun h => ?_))))
 ·refine sW (pT rfl (st (v := .dat (.st _ _)) ?_))
  refine pI rfl (dn (AWp.ret ?_))
  subst h
  exact ⟨_, rfl, rfl, rfl⟩
 refine AWp.skip (AWp.seq (rN (pI rfl (dn (AWp.seq (AWp.seq ?_))))))
 obtain ⟨J37, h, hk38⟩ := h
 refine AWp.cutK (I := fun p : Bool => mkSt [(0, .pt 1000000 [] 0), (2, .pt 2 [] 0), (5, .dat (.v (.int .i64 (1 : Int)))), (34, .dat (.v (.bool p)))] [(2, .box 52 5 (.dat (GToken.enc GToken.zero))), (1000000, .box 50 3 (.dat (Glexlexer.enc l1)))]) (Inv := fun p : Bool => J37 p) ?_ (fun p hp => ?_)
 ·refine rN (pI rfl (pB rfl (pB rfl (sB 30 h (fun h => ?_) (fun h => ?_)))))
  ·refine pP rfl (kR h rfl ⟨.inl rfl, trivial⟩ fun x28 h => ?_)
   refine pB rfl (pB rfl (dn ?_))
   exact ⟨(x28 == (46 : Int)), h, sl⟩
  refine fo 3 rfl (pB rfl (dn ?_))
  exact ⟨false, h, sl⟩
 replace h := hk38 p hp
 revert h; clear hp; generalize p = x26; intro h
 obtain ⟨J35, h, hk36⟩ := h
 refine AWp.cutK (I := fun p : Int => mkSt [(0, .pt 1000000 [] 0), (2, .pt 2 [] 0), (5, .dat (.v (.int .i64 p)))] [(2, .box 52 5 (.dat (GToken.enc GToken.zero))), (1000000, .box 50 3 (.dat (Glexlexer.enc l1)))]) (Inv := fun p : Int => J35 p) ?_ (fun p hp => ?_)
 ·refine cB h (fun h => ?_) (fun h => ?_)
  ·refine rN (pI rfl (dn ?_))
   exact ⟨(2 : Int), h, sl⟩
  refine AWp.skip ?_
  exact ⟨(1 : Int), h, sl⟩
 replace h := hk36 p hp
 revert h; clear hp; generalize p = n30; intro h
 refine AWp.seq (rE [(0, [1000000]), (6, [6]), (35, [1000000]), (36, [1000000]), (37, [1000000]), (39, [1000000]), (40, [1000000]), (41, [1000000]), (43, [1000000]), (44, [1000000]), (45, [1000000]), (50, [1000000]), (51, [1000000]), (52, [1000000])] (pP rfl (pP rfl (pP rfl (pG rfl ?_)))))
 refine pP rfl (pP rfl (pP rfl (pI rfl (pP rfl (pP rfl (pP rfl (pI rfl (pI rfl ?_))))))))
 obtain ⟨x32, ex32, h⟩ := h.get
 refine ai ex32 rfl ?_
 obtain ⟨h1, h2, h3, x33, ex33, h⟩ := h.get
 refine AOps.sls q01 rfl rfl rfl rfl rfl rfl rfl rfl h1 h2 h3 ex33 ?_
 refine pP rfl (pP rfl (pP rfl (pI rfl (pT rfl (al0 ?_)))))
 refine st (v := .dat (.st _ _)) ?_
 refine dn (sW (pP rfl (pP rfl (pP rfl (pI rfl (pI rfl ?_))))))
 obtain ⟨x34, ex34, h⟩ := h.get
 refine ai ex34 rfl (pP rfl (pP rfl (st (v := .dat (.v (.int _ _))) ?_)))
 refine dn (sW (pT rfl (st (v := .dat (.st _ _)) ?_)))
 refine pI rfl (dn (AWp.ret ?_))
 subst h
 exact ⟨_, rfl, rfl, rfl⟩
def q4x (c1 : Int) (Q : Bool -> Prop) : Prop :=
 Br (c1 == (32 : Int)) (Q true) (
 Br (c1 == (9 : Int)) (Q true) (
 Br (c1 == (10 : Int)) (Q true) (
 Q (c1 == (13 : Int)))))
theorem qB3 {c1 : Int} {r : Bool} (h : q4x c1 (fun r' => r' = r)) : q3w c1 r := by
 unfold q4x at h
 refine intr (L := [(0, .dat (.v (.int .u8 c1)))]) Tryz.func44 Tryz.ntmps44 ?_
 refine sN (pB rfl (dn (AWp.seq (rN (pI rfl (pB rfl (pB rfl (sB 5 h (fun h => ?_) (fun h => ?_)))))))))
 ·refine ff rfl (ff rfl (pB rfl (pB rfl (ff rfl (ff rfl (pB rfl (pB rfl (ff rfl (ff rfl (pB rfl (pB rfl (dn (AWp.ret ?_)))))))))))))
  subst h
  exact ⟨_, rfl, rfl⟩
 refine pI rfl (pB rfl (pB rfl (pB rfl (sB 9 h (fun h => ?_) (fun h => ?_)))))
 ·refine ff rfl (ff rfl (pB rfl (pB rfl (ff rfl (ff rfl (pB rfl (pB rfl (dn (AWp.ret ?_)))))))))
  subst h
  exact ⟨_, rfl, rfl⟩
 refine pI rfl (pB rfl (pB rfl (pB rfl (sB 13 h (fun h => ?_) (fun h => ?_)))))
 ·refine ff rfl (ff rfl (pB rfl (pB rfl (dn (AWp.ret ?_)))))
  subst h
  exact ⟨_, rfl, rfl⟩
 refine pI rfl (pB rfl (pB rfl (pB rfl (dn (AWp.ret ?_)))))
 subst h
 exact ⟨_, rfl, rfl⟩
def q7g (l1 : Glexlexer) (is2 : DV) (Q : Glexlexer -> Prop) : Prop :=
 Loop1 l1 (fun (l15 : Glexlexer) next16 =>
 Br (decide (l15.at_ < ((l15.s_.size : Nat) : Int))) (
 AtS l15.s_ l15.at_ fun x23 =>
 Call (fun x25 : Bool => FVal prog is2 [.v (.int .u8 x23)] (.v (.bool x25))) fun x25 =>
 Br x25 (
 Let (IntKind.i64.wrap (l15.at_ + (1 : Int))) fun x27 =>
 next16 ({ l15 with at_ := x27 })) (
 Q l15)) (
 Q l15))
theorem qDl {l1 : Glexlexer} {is2 : DV} {r : Glexlexer} (h : q7g l1 is2 (fun r' => r' = r)) : q0x l1 is2 r := by
 unfold q7g at h
 refine AFnB.intro' (L := [(1, .dat (is2))]) q01 Tryz.func45 rfl rfl Tryz.ntmps45 rfl rfl rfl (fun b => ?_)
 refine AWp.block ?_
 obtain ⟨I28, x29, hz30, hr31⟩ := h
 refine AWp.loop (I := fun p : Glexlexer => mkSt [(0, .pt 1000000 [] 0), (1, .dat (is2))] [(1000000, .box 50 3 (.dat (Glexlexer.enc p)))]) (Inv := fun p => I28 p) (μ := fun p => x29 p) (x0 := l1) hz30 sl (fun p hp => ?_)
 have h := hr31 p hp
 revert h; clear hp; generalize p = l15; intro h
 refine AWp.seq (AWp.seq (rD (pP rfl (pP rfl (pP rfl (pI rfl (pP rfl (pP rfl (pP rfl (pG rfl (pI rfl (pB rfl (pB rfl (sB 14 h (fun h => ?_) (fun h => ?_)))))))))))))))
 ·refine AOps.mv rfl rfl (.inl rfl) rfl ?_
  refine pP rfl (pP rfl (pP rfl (pG rfl (pP rfl (pP rfl (pP rfl (pI rfl ?_)))))))
  obtain ⟨hi22, x23, hx24, h⟩ := AtS.get h
  refine AOps.sidxE q01 rfl rfl rfl rfl rfl rfl rfl hi22 hx24 ?_
  obtain ⟨x25, hc26, h⟩ := h
  refine AOps.callv hc26 rfl rfl rfl rfl ⟨.inl rfl, trivial⟩ ?_
  refine pB rfl (dn (cB h (fun h => ?_) (fun h => ?_)))
  ·refine AWp.skip (AWp.block (rW (pP rfl (pP rfl (pP rfl (pI rfl ?_))))))
   obtain ⟨x27, ex27, h⟩ := h.get
   refine ai ex27 rfl (pP rfl (pP rfl (st (v := .dat (.v (.int _ _))) ?_)))
   refine dn ?_
   exact ⟨({ l15 with at_ := x27 }), h.1, h.2, sl⟩
  refine AWp.exit ?_
  subst h
  exact ⟨_, rfl, rfl, rfl⟩
 refine fo 11 rfl (pB rfl (dn ?_))
 refine AWp.condF rfl ?_
 refine AWp.exit ?_
 subst h
 exact ⟨_, rfl, rfl, rfl⟩
def q84 (l1 : Glexlexer) (n2 : Int) (Q : Int -> Prop) : Prop :=
 Let (IntKind.i64.wrap (l1.at_ + n2)) fun x3 =>
 Br (decide (x3 < ((l1.s_.size : Nat) : Int))) (
 Let (IntKind.i64.wrap (l1.at_ + n2)) fun x8 =>
 AtS l1.s_ x8 fun x10 =>
 Q x10) (
 Q (0 : Int))
theorem qEb {l1 : Glexlexer} {n2 : Int} {r : Int} (h : q84 l1 n2 (fun r' => r' = r)) : q0n l1 n2 r := by
 unfold q84 at h
 refine AFnB.intro' (L := [(1, .dat (.v (.int .i64 n2)))]) q01 Tryz.func46 rfl rfl Tryz.ntmps46 rfl rfl rfl (fun b => ?_)
 refine sN (pI rfl (dn (AWp.seq (AWp.seq (rD (pP rfl (pP rfl (pP rfl (pI rfl (pI rfl ?_))))))))))
 obtain ⟨x3, ex3, h⟩ := h.get
 refine ai ex3 rfl (pP rfl (pP rfl (pP rfl (pG rfl (pI rfl (pB rfl (dn (cB h (fun h => ?_) (fun h => ?_)))))))))
 ·refine sD (pP rfl (pP rfl (pP rfl (pG rfl (pP rfl (pP rfl (pP rfl (pI rfl (pI rfl ?_)))))))))
  obtain ⟨x8, ex8, h⟩ := h.get
  refine ai ex8 rfl ?_
  obtain ⟨hi9, x10, hx11, h⟩ := AtS.get h
  refine AOps.sidxE q01 rfl rfl rfl rfl rfl rfl rfl hi9 hx11 ?_
  refine pI rfl (dn (AWp.ret ?_))
  subst h
  exact ⟨_, rfl, rfl, rfl⟩
 refine AWp.skip (AWp.seq (rN (pI rfl (dn (AWp.ret ?_)))))
 subst h
 exact ⟨_, rfl, rfl, rfl⟩
def q4y (c1 : Int) (Q : Bool -> Prop) : Prop :=
 Q (c1 != (10 : Int))
theorem qB4 {c1 : Int} {r : Bool} (h : q4y c1 (fun r' => r' = r)) : q3x c1 r := by
 unfold q4y at h
 refine intr (L := [(0, .dat (.v (.int .u8 c1)))]) Tryz.func47 Tryz.ntmps47 ?_
 refine sN (pB rfl (dn (AWp.seq (rN (pI rfl (pB rfl (pB rfl (dn (AWp.ret ?_)))))))))
 subst h
 exact ⟨_, rfl, rfl⟩
def qCr (c1 : Int) (Q : Bool -> Prop) : Prop :=
 Let (bits .or .u8 c1 (32 : Int)) fun x4 =>
 Br (decide (x4 >= (97 : Int))) (
 Let (bits .or .u8 c1 (32 : Int)) fun x5 =>
 Q (decide (x5 <= (122 : Int)))) (
 Q false)
theorem qJc {c1 : Int} {r : Bool} (h : qCr c1 (fun r' => r' = r)) : q8f c1 r := by
 unfold qCr at h
 refine intr (L := [(0, .dat (.v (.int .u8 c1)))]) Tryz.func48 Tryz.ntmps48 ?_
 refine sN (pB rfl (dn (AWp.seq (rN (pI rfl ?_)))))
 obtain ⟨x4, ex4, h⟩ := h.get
 refine ai ex4 rfl (pB rfl (pB rfl (sB 6 h (fun h => ?_) (fun h => ?_))))
 ·refine pI rfl ?_
  obtain ⟨x5, ex5, h⟩ := h.get
  refine ai ex5 rfl (pB rfl (pB rfl (pB rfl (dn (AWp.ret ?_)))))
  subst h
  exact ⟨_, rfl, rfl⟩
 refine fo 3 rfl (pB rfl (pB rfl (dn (AWp.ret ?_))))
 subst h
 exact ⟨_, rfl, rfl⟩
def q85 (l1 : Glexlexer) (Q : (GToken × Int) × Glexlexer -> Prop) : Prop :=
 Call (q0x l1 q8u) fun x2 =>
 SlS x2.s_ l1.at_ x2.at_ fun x4 =>
 Br (decide (((x4.size : Nat) : Int) > (24 : Int))) (Q ((GToken.zero, (2 : Int)), x2)) (
 q16 (fun j6 =>
 Br ((mget x2.words_ x4).isSome) (j6 (2 : Int)) (
 j6 (1 : Int))
 ) (fun (kind5 : Int) =>
 Q ((({ GToken.zero with Kind := kind5, S := x4, At := l1.at_ }), (0 : Int)), x2)))
theorem qEc {l1 : Glexlexer} {r : (GToken × Int) × Glexlexer} (h : q85 l1 (fun r' => r' = r)) : q75 l1 r := by
 unfold q85 at h
 refine AFnB.intro' (L := []) q01 Tryz.func49 rfl rfl Tryz.ntmps49 rfl rfl rfl (fun b => ?_)
 refine sN (al0 ?_)
 refine pI rfl (dn (AWp.seq (rN (pP rfl (pP rfl (pP rfl (pI rfl (pI rfl (dn (AWp.seq ?_))))))))))
 refine AWp.regionN (fun o => q00 [45] o) rfl ?_
 refine pP rfl (kB h rfl ⟨.inl rfl, trivial⟩ fun x2 h => ?_)
 refine dn (sD (pP rfl (pP rfl (pP rfl (pG rfl (pI rfl (pP rfl (pP rfl (pP rfl (pI rfl ?_))))))))))
 obtain ⟨h1, h2, h3, x4, ex4, h⟩ := h.get
 refine AOps.sls q01 rfl rfl rfl rfl rfl rfl rfl rfl h1 h2 h3 ex4 ?_
 refine pG rfl (dn (AWp.seq (AWp.seq (rN (pG rfl (pI rfl (pB rfl (dn (cB h (fun h => ?_) (fun h => ?_))))))))))
 ·refine sW (pT rfl (st (v := .dat (.st _ _)) ?_))
  refine pI rfl (dn (AWp.ret ?_))
  subst h
  exact ⟨_, rfl, rfl, rfl⟩
 refine AWp.skip (AWp.seq (rN (pI rfl (dn (AWp.seq (AWp.seq (rW (pP rfl (pP rfl (pP rfl (pW rfl (pG rfl ?_))))))))))))
 refine AOps.lookupS2 q01 (ek := (fun s : ByteArray => Value.string s)) (ex := (fun _ : Unit => DV.st [] [])) (z := ()) (m := x2.words_) (k := x4) qU9 ⟨9, Tryz.underlying47, Tryz.underlying9⟩ rfl rfl rfl rfl rfl rfl rfl ?_
 refine pU rfl (pT rfl (pB rfl (al0 ?_)))
 refine st (v := .dat (.st _ _)) ?_
 refine pB rfl (dn (AWp.seq (rN (pB rfl (dn ?_)))))
 obtain ⟨J7, h, hk8⟩ := h
 refine AWp.cutK (I := fun p : Int => mkSt [(0, .pt 1000000 [] 0), (2, .pt 2 [] 0), (4, .dat (.v (.int .i64 l1.at_))), (5, .dat (.v (.string x4))), (6, .dat (.v (.int .i64 p)))] [(2, .box 52 5 (.dat (GToken.enc GToken.zero))), (1000000, .box 50 3 (.dat (Glexlexer.enc x2)))]) (Inv := fun p : Int => J7 p) ?_ (fun p hp => ?_)
 ·refine cB h (fun h => ?_) (fun h => ?_)
  ·refine rN (pI rfl (dn ?_))
   exact ⟨(2 : Int), h, sl⟩
  refine AWp.skip ?_
  exact ⟨(1 : Int), h, sl⟩
 replace h := hk8 p hp
 revert h; clear hp; generalize p = kind5; intro h
 refine sW (pI rfl (pG rfl (pI rfl (pT rfl (st (v := .dat (.st _ _)) ?_)))))
 refine pI rfl (dn (AWp.ret ?_))
 subst h
 exact ⟨_, rfl, rfl, rfl⟩
def qEd (c1 : Int) (Q : Bool -> Prop) : Prop :=
 Br (decide (c1 >= (48 : Int))) (Q (decide (c1 <= (57 : Int)))) (
 Q false)
theorem qK3 {c1 : Int} {r : Bool} (h : qEd c1 (fun r' => r' = r)) : q3y c1 r := by
 unfold qEd at h
 refine intr (L := [(0, .dat (.v (.int .u8 c1)))]) Tryz.func50 Tryz.ntmps50 ?_
 refine sN (pB rfl (dn (AWp.seq (rN (pI rfl (pB rfl (pB rfl (sB 5 h (fun h => ?_) (fun h => ?_)))))))))
 ·refine pI rfl (pB rfl (pB rfl (pB rfl (dn (AWp.ret ?_)))))
  subst h
  exact ⟨_, rfl, rfl⟩
 refine ff rfl (ff rfl (pB rfl (pB rfl (dn (AWp.ret ?_)))))
 subst h
 exact ⟨_, rfl, rfl⟩
def q6u (x1 : Glexlexer) (Q : (GToken × Int) × Glexlexer -> Prop) : Prop :=
 Call (q0x x1 q7r) fun x2 =>
 q16 (fun j11 =>
 Call (q0n x2 (0 : Int)) fun x12 =>
 Br (x12 == (46 : Int)) (
 Call (q0n x2 (1 : Int)) fun x14 =>
 Call (q3y x14) fun x16 =>
 j11 x16) (
 j11 false)
 ) (fun (x10 : Bool) =>
 q16 (fun j22 =>
 Br x10 (
 Let (IntKind.i64.wrap (x2.at_ + (1 : Int))) fun x23 =>
 Call (q0x ({ x2 with at_ := x23 }) q7r) fun x24 =>
 j22 x24) (
 j22 x2)
 ) (fun (x21 : Glexlexer) =>
 Call (q0n x21 (0 : Int)) fun x26 =>
 Let (bits .or .u8 x26 (32 : Int)) fun x28 =>
 q16 (fun j47 =>
 Br (x28 == (101 : Int)) (
 Call (q0n x21 (1 : Int)) fun x48 =>
 q16 (fun j51 =>
 Br (x48 == (43 : Int)) (j51 true) (
 j51 (x48 == (45 : Int)))
 ) (fun (x50 : Bool) =>
 q16 (fun j53 =>
 Br x50 (j53 (2 : Int)) (
 j53 (1 : Int))
 ) (fun (x52 : Int) =>
 Call (q0n x21 x52) fun x54 =>
 Call (q3y x54) fun x56 =>
 Br x56 (
 Let (IntKind.i64.wrap (x21.at_ + x52)) fun x58 =>
 Call (q0x ({ x21 with at_ := x58 }) q7r) fun x59 =>
 j47 x59) (
 j47 x21)))) (
 j47 x21)
 ) (fun (x46 : Glexlexer) =>
 SlS x46.s_ x1.at_ x46.at_ fun x65 =>
 Call (q8s x65) fun x66 =>
 Q ((({ GToken.zero with Kind := (3 : Int), Num := x66.1, At := x1.at_ }), x66.2), x46))))
theorem qCs {x1 : Glexlexer} {r : (GToken × Int) × Glexlexer} (h : q6u x1 (fun r' => r' = r)) : q5a x1 r := by
 unfold q6u at h
 refine AFnB.intro' (L := []) q01 Tryz.func51 rfl rfl Tryz.ntmps51 rfl rfl rfl (fun b => ?_)
 refine sN (al0 ?_)
 refine pI rfl (dn (AWp.seq (rN (pP rfl (pP rfl (pP rfl (pI rfl (pI rfl (dn (AWp.seq ?_))))))))))
 refine AWp.regionN (fun o => q00 [45] o) rfl ?_
 refine pP rfl (kB h rfl ⟨.inl rfl, trivial⟩ fun x2 h => ?_)
 refine dn (AWp.seq (AWp.seq ?_))
 obtain ⟨J72, h, hk73⟩ := h
 refine AWp.cutK (I := fun p : Bool => mkSt [(0, .pt 1000000 [] 0), (2, .pt 2 [] 0), (4, .dat (.v (.int .i64 x1.at_))), (22, .dat (.v (.bool p)))] [(2, .box 52 5 (.dat (GToken.enc GToken.zero))), (1000000, .box 50 3 (.dat (Glexlexer.enc x2)))]) (Inv := fun p : Bool => J72 p) ?_ (fun p hp => ?_)
 ·refine rN (pP rfl (kR h rfl ⟨.inl rfl, trivial⟩ fun x12 h => ?_))
  refine pB rfl (pB rfl (sB 18 h (fun h => ?_) (fun h => ?_)))
  ·refine pP rfl (kR h rfl ⟨.inl rfl, trivial⟩ fun x14 h => ?_)
   refine kC h rfl ⟨.inl rfl, trivial⟩ rfl fun x16 h => pB rfl ?_
   refine dn ?_
   exact ⟨x16, h, sl⟩
  refine fo 3 rfl (pB rfl (dn ?_))
  exact ⟨false, h, sl⟩
 replace h := hk73 p hp
 revert h; clear hp; generalize p = x10; intro h
 obtain ⟨J70, h, hk71⟩ := h
 refine AWp.cutK (I := fun p : Glexlexer => mkSt [(0, .pt 1000000 [] 0), (2, .pt 2 [] 0), (4, .dat (.v (.int .i64 x1.at_)))] [(2, .box 52 5 (.dat (GToken.enc GToken.zero))), (1000000, .box 50 3 (.dat (Glexlexer.enc p)))]) (Inv := fun p : Glexlexer => J70 p) ?_ (fun p hp => ?_)
 ·refine cB h (fun h => ?_) (fun h => ?_)
  ·refine sW (pP rfl (pP rfl (pP rfl (pI rfl ?_))))
   obtain ⟨x23, ex23, h⟩ := h.get
   refine ai ex23 rfl (pP rfl (pP rfl (st (v := .dat (.v (.int _ _))) ?_)))
   refine dn ?_
   refine AWp.regionN (fun o => q00 [45] o) rfl ?_
   refine pP rfl (kB h rfl ⟨.inl rfl, trivial⟩ fun x24 h => ?_)
   refine dn ?_
   exact ⟨x24, h, sl⟩
  refine AWp.skip ?_
  exact ⟨x2, h, sl⟩
 replace h := hk71 p hp
 revert h; clear hp; generalize p = x21; intro h
 refine AWp.seq (AWp.seq (rN (pP rfl (kR h rfl ⟨.inl rfl, trivial⟩ fun x26 h => ?_))))
 obtain ⟨x28, ex28, h⟩ := h.get
 refine ai ex28 rfl (pB rfl (dn ?_))
 obtain ⟨J68, h, hk69⟩ := h
 refine AWp.cutK (I := fun p : Glexlexer => mkSt [(0, .pt 1000000 [] 0), (2, .pt 2 [] 0), (4, .dat (.v (.int .i64 x1.at_)))] [(2, .box 52 5 (.dat (GToken.enc GToken.zero))), (1000000, .box 50 3 (.dat (Glexlexer.enc p)))]) (Inv := fun p : Glexlexer => J68 p) ?_ (fun p hp => ?_)
 ·refine cB h (fun h => ?_) (fun h => ?_)
  ·refine sN (pI rfl (dn (AWp.seq (AWp.seq (rN (pP rfl (kR h rfl ⟨.inl rfl, trivial⟩ fun x48 h => ?_)))))))
   refine pI rfl (dn (AWp.seq ?_))
   obtain ⟨J63, h, hk64⟩ := h
   refine AWp.cutK (I := fun p : Bool => mkSt [(0, .pt 1000000 [] 0), (2, .pt 2 [] 0), (4, .dat (.v (.int .i64 x1.at_))), (5, .dat (.v (.int .i64 (1 : Int)))), (43, .dat (.v (.bool p)))] [(2, .box 52 5 (.dat (GToken.enc GToken.zero))), (1000000, .box 50 3 (.dat (Glexlexer.enc x21)))]) (Inv := fun p : Bool => J63 p) ?_ (fun p hp => ?_)
   ·refine rN (pI rfl (pB rfl (pB rfl (sB 40 h (fun h => ?_) (fun h => ?_)))))
    ·refine ff rfl (ff rfl (pB rfl (dn ?_)))
     exact ⟨true, h, sl⟩
    refine pI rfl (pB rfl (pB rfl (dn ?_)))
    exact ⟨(x48 == (45 : Int)), h, sl⟩
   replace h := hk64 p hp
   revert h; clear hp; generalize p = x50; intro h
   obtain ⟨J61, h, hk62⟩ := h
   refine AWp.cutK (I := fun p : Int => mkSt [(0, .pt 1000000 [] 0), (2, .pt 2 [] 0), (4, .dat (.v (.int .i64 x1.at_))), (5, .dat (.v (.int .i64 p)))] [(2, .box 52 5 (.dat (GToken.enc GToken.zero))), (1000000, .box 50 3 (.dat (Glexlexer.enc x21)))]) (Inv := fun p : Int => J61 p) ?_ (fun p hp => ?_)
   ·refine cB h (fun h => ?_) (fun h => ?_)
    ·refine rN (pI rfl (dn ?_))
     exact ⟨(2 : Int), h, sl⟩
    refine AWp.skip ?_
    exact ⟨(1 : Int), h, sl⟩
   replace h := hk62 p hp
   revert h; clear hp; generalize p = x52; intro h
   refine sN (pP rfl (pI rfl (kR h rfl ⟨.inl rfl, trivial⟩ fun x54 h => ?_)))
   refine kC h rfl ⟨.inl rfl, trivial⟩ rfl fun x56 h => dn ?_
   refine cB h (fun h => ?_) (fun h => ?_)
   ·refine sW (pP rfl (pP rfl (pP rfl (pI rfl (pI rfl ?_)))))
    obtain ⟨x58, ex58, h⟩ := h.get
    refine ai ex58 rfl (pP rfl (pP rfl (st (v := .dat (.v (.int _ _))) ?_)))
    refine dn ?_
    refine AWp.regionN (fun o => q00 [45] o) rfl ?_
    refine pP rfl (kB h rfl ⟨.inl rfl, trivial⟩ fun x59 h => ?_)
    refine dn ?_
    exact ⟨x59, h, sl⟩
   refine AWp.skip ?_
   exact ⟨x21, h, sl⟩
  refine AWp.skip ?_
  exact ⟨x21, h, sl⟩
 replace h := hk69 p hp
 revert h; clear hp; generalize p = x46; intro h
 refine AWp.seq (rE [(0, [1000000]), (4, []), (7, [7]), (59, [1000000]), (60, [1000000]), (61, [1000000]), (63, []), (64, [1000000]), (65, [1000000]), (66, [1000000])] (pP rfl (pP rfl (pP rfl (pG rfl (pI rfl (pP rfl (pP rfl (pP rfl (pI rfl ?_))))))))))
 obtain ⟨h1, h2, h3, x65, ex65, h⟩ := h.get
 refine AOps.sls q01 rfl rfl rfl rfl rfl rfl rfl rfl h1 h2 h3 ex65 ?_
 refine kC h rfl ⟨.inl rfl, trivial⟩ rfl fun x66 h => pU rfl ?_
 refine pT rfl (pI rfl (al0 ?_))
 refine st (v := .dat (.st _ _)) ?_
 refine pI rfl (dn (AWp.seq (rW (pT rfl (pI rfl (pT rfl (pI rfl (st (v := .dat (.st _ _)) ?_))))))))
 refine pI rfl (dn (AWp.ret ?_))
 subst h
 exact ⟨_, rfl, rfl, rfl⟩
def q6v (c1 : Int) (Q : Bool -> Prop) : Prop :=
 Call (q8f c1) fun x6 =>
 Br x6 (Q true) (
 Call (q3y c1) fun x8 =>
 Br x8 (Q true) (
 Q (c1 == (95 : Int))))
theorem qCt {c1 : Int} {r : Bool} (h : q6v c1 (fun r' => r' = r)) : q5c c1 r := by
 unfold q6v at h
 refine intr (L := [(0, .dat (.v (.int .u8 c1)))]) Tryz.func77 Tryz.ntmps77 ?_
 refine sN (pB rfl (dn (AWp.seq (rN (pI rfl (kC h rfl ⟨.inl rfl, trivial⟩ rfl fun x6 h => ?_))))))
 refine pB rfl (sB 5 h (fun h => ?_) (fun h => ?_))
 ·refine ff rfl (ff rfl (pB rfl (pB rfl (ff rfl (ff rfl (pB rfl (pB rfl (dn (AWp.ret ?_)))))))))
  subst h
  exact ⟨_, rfl, rfl⟩
 refine pI rfl (kC h rfl ⟨.inl rfl, trivial⟩ rfl fun x8 h => ?_)
 refine pB rfl (pB rfl (sB 9 h (fun h => ?_) (fun h => ?_)))
 ·refine ff rfl (ff rfl (pB rfl (pB rfl (dn (AWp.ret ?_)))))
  subst h
  exact ⟨_, rfl, rfl⟩
 refine pI rfl (pB rfl (pB rfl (pB rfl (dn (AWp.ret ?_)))))
 subst h
 exact ⟨_, rfl, rfl⟩
end Go.Sim.YtifjflhnfjhijaaGreatDoor
