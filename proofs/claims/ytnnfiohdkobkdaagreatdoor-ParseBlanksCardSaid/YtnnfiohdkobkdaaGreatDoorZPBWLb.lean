/- What is proved: functions of the program compute what plain statements tell. -/
import Derived.Test.YtnnfiohdkobkdaaGreatDoorZPBWE
import Derived.Test.YtnnfiohdkobkdaaGreatDoorZPBPevD
import Derived.Test.YtnnfiohdkobkdaaGreatDoorZPBStrX

namespace Go.Sim.YtnnfiohdkobkdaaGreatDoor
open Go.RowKit Go.Proofs Go.Proofs.Tryz
set_option maxRecDepth 100000
def W_law13_ParseBlanks (x1 : ByteArray) (x2 : List Int) (Q : Bool -> Prop) : Prop :=
 Call (Ev_law13_alive) fun x3 =>
 Br (!x3) (Q false) (
 Call (Ev_lex_Lex x1) fun x5 =>
 Br (x5.2.1 != (0 : Int)) (Q true) (
 Br (decide (((x5.1.length : Nat) : Int) > (300 : Int))) (Q true) (
 Loop3 (ByteArray.mk #[]) (0 : Int) (0 : Int) (fun (x129 : ByteArray) (x130 : Int) (x131 : Int) next132 =>
 Br (decide (x131 < ((x5.1.length : Nat) : Int))) (
 At x5.1 x131 fun x150 =>
 SlS x1 x130 x150.At fun x152 =>
 Cat x129 x152 fun x153 =>
 Br (decide (x131 < ((x2.length : Nat) : Int))) (
 At x2 x131 fun x161 =>
 Let (Int.tmod x161 (2 : Int)) fun x163 =>
 Br (x163 == (1 : Int)) (
 Cat x153 (ByteArray.mk #[32, 47, 47, 32, 120, 32, 59, 32, 40, 10, 9]) fun x164 =>
 Let (IntKind.i64.wrap (x131 + (1 : Int))) fun x165 =>
 next132 x164 x150.At x165) (
 Let (IntKind.i64.wrap (x131 + (1 : Int))) fun x166 =>
 next132 x153 x150.At x166)) (
 Let (IntKind.i64.wrap (x131 + (1 : Int))) fun x167 =>
 next132 x153 x150.At x167)) (
 SlS x1 x130 ((x1.size : Nat) : Int) fun x168 =>
 Cat x129 x168 fun x169 =>
 Br (decide (((x169.size : Nat) : Int) > (20000 : Int))) (Q true) (
 Call (Ev_parse_Parse x1) fun x170 =>
 Call (Ev_parse_Parse x169) fun x172 =>
 Br (x170.2.1 == x172.2.1) (
 Call (Ev_ref13_Like x170.1 x172.1) fun x176 =>
 Q x176) (
 Q false)))))))
theorem walk_law13_ParseBlanks {x1 : ByteArray} {x2 : List Int} {r : Bool} (h : W_law13_ParseBlanks x1 x2 (fun r' => r' = r)) : Ev_law13_ParseBlanks x1 x2 r := by
 unfold W_law13_ParseBlanks at h
 refine intr (L := [(0, .dat (.v (.string x1))), (1, .dat (.sl 3 1 (List.map (eInt .i64) x2)))]) Tryz.func7 Tryz.ntmps7 ?_
 refine sN (pB rfl (dn (AWp.seq (AWp.seq (rN (kC h rfl trivial rfl fun x3 h => ?_))))))
 refine pB rfl (dn (cB h (fun h => ?_) (fun h => ?_)))
 ·refine sN (pB rfl (dn (AWp.ret ?_)))
  subst h
  exact ⟨_, rfl, rfl⟩
 refine AWp.skip (AWp.seq (rN (pG rfl (kC h rfl ⟨.inl rfl, trivial⟩ rfl fun x5 h => ?_))))
 refine pU rfl (pS rfl (pI rfl (pI rfl (pS rfl (pI rfl (pI rfl (dn (AWp.seq (AWp.seq (rN (pI rfl (pB rfl (pB rfl (sB 28 h (fun h => ?_) (fun h => ?_)))))))))))))))
 ·refine fo 3 rfl (pB rfl (dn ?_))
  refine AWp.condT rfl ?_
  refine sN (pB rfl (dn (AWp.ret ?_)))
  subst h
  exact ⟨_, rfl, rfl⟩
 refine pS rfl (al (((x5.1.length : Nat) : Int)) rfl (pB rfl (pB rfl (dn (cB h (fun h => ?_) (fun h => ?_))))))
 ·refine sN (pB rfl (dn (AWp.ret ?_)))
  subst h
  exact ⟨_, rfl, rfl⟩
 refine AWp.skip (AWp.seq (rN (pG rfl (pI rfl (dn (AWp.seq (AWp.seq (rN (pS rfl (al (((x5.1.length : Nat) : Int)) rfl (pI rfl (dn (AWp.block ?_)))))))))))))
 obtain ⟨I178, x179, hz180, hr181⟩ := h
 refine AWp.loop (I := fun p : ByteArray × Int × Int => mkSt [(0, .dat (.v (.string x1))), (1, .dat (.sl 3 1 (List.map (eInt .i64) x2))), (8, .dat (.v (.string p.1))), (9, .dat (.v (.int .i64 p.2.1))), (33, .dat (.sl 40 5 (List.map GToken.enc x5.1))), (34, .dat (.v (.int .i64 ((x5.1.length : Nat) : Int)))), (35, .dat (.v (.int .i64 p.2.2)))] []) (Inv := fun p => I178 p.1 p.2.1 p.2.2) (μ := fun p => x179 p.1 p.2.1 p.2.2) (x0 := ⟨(ByteArray.mk #[]), (0 : Int), (0 : Int)⟩) hz180 sl (fun p hp => ?_)
 obtain ⟨x129, x130, x131⟩ := p
 have h := hr181 x129 x130 x131 hp
 refine sN (pW rfl (dn (AWp.seq (cB h (fun h => ?_) (fun h => ?_)))))
 ·refine AWp.skip (AWp.seq (AWp.block (AWp.seq (rW (pI rfl (kI h map_get rfl rfl rfl rfl rfl rfl rfl fun x150 h => ?_))))))
  refine pT rfl (al0 ?_)
  refine pI rfl (st (v := .dat (.st _ _)) ?_)
  refine dn (sN (pG rfl (pG rfl (pI rfl (pP rfl (pI rfl ?_))))))
  obtain ⟨h1, h2, h3, x152, ex152, h⟩ := h.get
  refine AOps.sls tabOk rfl rfl rfl rfl rfl rfl rfl rfl h1 h2 h3 ex152 ?_
  refine kc h rfl rfl rfl rfl fun x153 h => pG rfl ?_
  refine dn (sN (pP rfl (pI rfl (pI rfl (dn (AWp.seq (rN (pI rfl (pS rfl (al (((x2.length : Nat) : Int)) rfl (pB rfl (pB rfl (sB 53 h (fun h => ?_) (fun h => ?_))))))))))))))
  ·refine pS rfl (pI rfl (kI h map_get rfl rfl rfl rfl rfl rfl rfl fun x161 h => ?_))
   refine pI rfl ?_
   obtain ⟨x163, ex163, h⟩ := h.get
   refine AOps.q rfl rfl rfl rfl rfl (rbin_rem (by decide)) ex163 ?_
   refine pB rfl (pB rfl (dn (cB h (fun h => ?_) (fun h => ?_))))
   ·refine rN (pG rfl (kc h rfl rfl rfl rfl fun x164 h => ?_))
    refine pG rfl (dn (rN ?_))
    obtain ⟨x165, ex165, h⟩ := h.get
    refine ai ex165 rfl (pI rfl (dn ?_))
    exact ⟨⟨x164, x150.At, x165⟩, h.1, h.2, sl⟩
   refine AWp.skip (rN ?_)
   obtain ⟨x166, ex166, h⟩ := h.get
   refine ai ex166 rfl (pI rfl (dn ?_))
   exact ⟨⟨x153, x150.At, x166⟩, h.1, h.2, sl⟩
  refine fo 6 rfl (pB rfl (dn ?_))
  refine AWp.condF rfl ?_
  refine AWp.skip (rN ?_)
  obtain ⟨x167, ex167, h⟩ := h.get
  refine ai ex167 rfl (pI rfl (dn ?_))
  exact ⟨⟨x153, x150.At, x167⟩, h.1, h.2, sl⟩
 refine AWp.exit ?_
 refine sN (pG rfl (pG rfl (pI rfl ?_)))
 obtain ⟨h1, h2, h3, x168, ex168, h⟩ := h.get
 refine AOps.slsl tabOk rfl rfl rfl rfl rfl rfl rfl rfl h1 h2 ex168 ?_
 refine kc h rfl rfl rfl rfl fun x169 h => pG rfl ?_
 refine dn (AWp.seq (AWp.seq (rN (pG rfl (pI rfl (pB rfl (dn (cB h (fun h => ?_) (fun h => ?_)))))))))
 ·refine sN (pB rfl (dn (AWp.ret ?_)))
  subst h
  exact ⟨_, rfl, rfl⟩
 refine AWp.skip (AWp.seq (rW (pG rfl (kC h rfl ⟨.inl rfl, trivial⟩ rfl fun x170 h => ?_))))
 refine pU rfl (pT rfl (pI rfl (pI rfl (al0 ?_))))
 refine st (v := .dat (.st _ _)) ?_
 refine pI rfl (pI rfl (dn (AWp.seq (rW (pG rfl (kC h rfl ⟨.inl rfl, trivial⟩ rfl fun x172 h => ?_))))))
 refine pU rfl (pT rfl (pI rfl (pI rfl (al0 ?_))))
 refine st (v := .dat (.st _ _)) ?_
 refine pI rfl (pI rfl (dn (AWp.seq (rN (pI rfl (pI rfl (pB rfl (pB rfl (sB 87 h (fun h => ?_) (fun h => ?_))))))))))
 ·refine pT rfl (pT rfl (kC h rfl ⟨.inl rfl, .inl rfl, trivial⟩ rfl fun x176 h => ?_))
  refine pB rfl (pB rfl (dn (AWp.ret ?_)))
  subst h
  exact ⟨_, rfl, rfl⟩
 refine fo 3 rfl (pB rfl (pB rfl (dn (AWp.ret ?_))))
 subst h
 exact ⟨_, rfl, rfl⟩
def W_law13_alive (Q : Bool -> Prop) : Prop :=
 Call (Ev_ulp_Next (4607182418800017408 : Nat)) fun x1 =>
 Q (FloatKind.f64.format.order x1 (4607182418800017408 : Nat) == some .gt)
theorem walk_law13_alive {r : Bool} (h : W_law13_alive (fun r' => r' = r)) : Ev_law13_alive r := by
 unfold W_law13_alive at h
 refine intr (L := []) Tryz.func16 Tryz.ntmps16 ?_
 refine sN (pB rfl (dn (AWp.seq (rN (kC h rfl ⟨.inl rfl, trivial⟩ rfl fun x1 h => ?_)))))
 refine pB rfl (pB rfl (dn (AWp.ret ?_)))
 subst h
 exact ⟨_, rfl, rfl⟩
def W_ref13_Like (x1 : GTree) (x2 : GTree) (Q : Bool -> Prop) : Prop :=
 Br (x1.Kind != x2.Kind) (Q false) (
 Br (!(x1.Name.toList == x2.Name.toList)) (Q false) (
 Br (!(x1.Alias.toList == x2.Alias.toList)) (Q false) (
 Br (x1.N != x2.N) (Q false) (
 Br (x1.M != x2.M) (Q false) (
 Br (x1.Flag != x2.Flag) (Q false) (
 Br (!(GRat.beq x1.Num x2.Num)) (Q false) (
 Br (((x1.Kids.length : Nat) : Int) != ((x2.Kids.length : Nat) : Int)) (Q false) (
 Loop1 (0 : Int) (fun (x71 : Int) next72 =>
 Br (decide (x71 < ((x1.Kids.length : Nat) : Int))) (
 At x1.Kids x71 fun x82 =>
 At x2.Kids x71 fun x85 =>
 Call (Ev_ref13_Like x82 x85) fun x87 =>
 Br (!x87) (Q false) (
 Let (IntKind.i64.wrap (x71 + (1 : Int))) fun x89 =>
 next72 x89)) (
 Q true))))))))))
theorem walk_ref13_Like {x1 : GTree} {x2 : GTree} {r : Bool} (h : W_ref13_Like x1 x2 (fun r' => r' = r)) : Ev_ref13_Like x1 x2 r := by
 unfold W_ref13_Like at h
 refine intr (L := [(0, .dat (GTree.out x1)), (1, .dat (GTree.out x2))]) Tryz.func14 Tryz.ntmps14 ?_
 refine sN (bx (v := .dat (.st _ _)) ?_)
 refine bx (v := .dat (.st _ _)) ?_
 refine pB rfl (dn (AWp.seq (AWp.seq (rN (pP rfl (pI rfl (pP rfl (pI rfl (pB rfl (pB rfl (sB 11 h (fun h => ?_) (fun h => ?_))))))))))))
 ·refine fo 5 rfl (pB rfl (pB rfl (fo 5 rfl (pB rfl (pB rfl (fo 5 rfl (pB rfl (pB rfl (fo 5 rfl (pB rfl (pB rfl (fo 3 rfl ?_))))))))))))
  refine ff rfl (ff rfl (pB rfl (pB rfl (fo 5 rfl (pB rfl (pB rfl (fo 7 rfl (pB rfl (dn ?_)))))))))
  refine AWp.condT rfl ?_
  refine sN (pB rfl (dn (AWp.ret ?_)))
  subst h
  exact ⟨_, rfl, rfl⟩
 refine pP rfl (pG rfl (pP rfl (pG rfl (pB rfl (pB rfl (pB rfl (sB 18 h (fun h => ?_) (fun h => ?_))))))))
 ·refine fo 5 rfl (pB rfl (pB rfl (fo 5 rfl (pB rfl (pB rfl (fo 5 rfl (pB rfl (pB rfl (fo 5 rfl (pB rfl (pB rfl (fo 3 rfl ?_))))))))))))
  refine ff rfl (ff rfl (pB rfl (pB rfl (fo 7 rfl (pB rfl (dn ?_))))))
  refine AWp.condT rfl ?_
  refine sN (pB rfl (dn (AWp.ret ?_)))
  subst h
  exact ⟨_, rfl, rfl⟩
 refine pP rfl (pG rfl (pP rfl (pG rfl (pB rfl (pB rfl (pB rfl (sB 25 h (fun h => ?_) (fun h => ?_))))))))
 ·refine fo 5 rfl (pB rfl (pB rfl (fo 5 rfl (pB rfl (pB rfl (fo 5 rfl (pB rfl (pB rfl (fo 5 rfl (pB rfl (pB rfl (fo 3 rfl ?_))))))))))))
  refine fo 4 rfl (pB rfl (dn ?_))
  refine AWp.condT rfl ?_
  refine sN (pB rfl (dn (AWp.ret ?_)))
  subst h
  exact ⟨_, rfl, rfl⟩
 refine pP rfl (pI rfl (pP rfl (pI rfl (pB rfl (pB rfl (pB rfl (sB 32 h (fun h => ?_) (fun h => ?_))))))))
 ·refine fo 5 rfl (pB rfl (pB rfl (fo 5 rfl (pB rfl (pB rfl (fo 5 rfl (pB rfl (pB rfl (fo 7 rfl (pB rfl (dn ?_)))))))))))
  refine AWp.condT rfl ?_
  refine sN (pB rfl (dn (AWp.ret ?_)))
  subst h
  exact ⟨_, rfl, rfl⟩
 refine pP rfl (pI rfl (pP rfl (pI rfl (pB rfl (pB rfl (pB rfl (sB 39 h (fun h => ?_) (fun h => ?_))))))))
 ·refine fo 5 rfl (pB rfl (pB rfl (fo 5 rfl (pB rfl (pB rfl (fo 7 rfl (pB rfl (dn ?_))))))))
  refine AWp.condT rfl ?_
  refine sN (pB rfl (dn (AWp.ret ?_)))
  subst h
  exact ⟨_, rfl, rfl⟩
 refine pP rfl (pB rfl (pP rfl (pB rfl (pB rfl (pB rfl (pB rfl (sB 46 h (fun h => ?_) (fun h => ?_))))))))
 ·refine fo 5 rfl (pB rfl (pB rfl (fo 7 rfl (pB rfl (dn ?_)))))
  refine AWp.condT rfl ?_
  refine sN (pB rfl (dn (AWp.ret ?_)))
  subst h
  exact ⟨_, rfl, rfl⟩
 refine pP rfl (pT rfl (pP rfl (pT rfl ?_)))
 refine AOps.nes rfl rfl rfl rfl rfl rfl rfl (by decide +kernel) (GRat.eqok23 _ x1.Num x2.Num) ?_
 refine pB rfl (pB rfl (sB 53 h (fun h => ?_) (fun h => ?_)))
 ·refine fo 7 rfl (pB rfl (dn ?_))
  refine AWp.condT rfl ?_
  refine sN (pB rfl (dn (AWp.ret ?_)))
  subst h
  exact ⟨_, rfl, rfl⟩
 refine pP rfl (pS rfl (al (((x1.Kids.length : Nat) : Int)) rfl (pP rfl (pS rfl (al (((x2.Kids.length : Nat) : Int)) rfl (pB rfl (pB rfl (dn (cB h (fun h => ?_) (fun h => ?_))))))))))
 ·refine sN (pB rfl (dn (AWp.ret ?_)))
  subst h
  exact ⟨_, rfl, rfl⟩
 refine AWp.skip (AWp.seq (AWp.seq (rN (pP rfl (pS rfl (al (((x1.Kids.length : Nat) : Int)) rfl (pI rfl (dn (AWp.block ?_)))))))))
 obtain ⟨I90, x91, hz92, hr93⟩ := h
 refine AWp.loop (I := fun p : Int => mkSt [(2, .pt 2 [] 0), (3, .pt 3 [] 0), (64, .dat (.v (.int .i64 ((x1.Kids.length : Nat) : Int)))), (65, .dat (.v (.int .i64 p)))] [(2, .box 26 9 (.dat (GTree.out x1))), (3, .box 26 9 (.dat (GTree.out x2)))]) (Inv := fun p => I90 p) (μ := fun p => x91 p) (x0 := (0 : Int)) hz92 sl (fun p hp => ?_)
 have h := hr93 p hp
 revert h; clear hp; generalize p = x71; intro h
 refine sN (pW rfl (dn (AWp.seq (cB h (fun h => ?_) (fun h => ?_)))))
 ·refine AWp.skip (AWp.seq (AWp.block (AWp.seq (rN (pI rfl (pI rfl (dn (AWp.seq (rD (pP rfl (pS rfl (pI rfl (kI h GTree.get rfl rfl rfl rfl rfl rfl rfl fun x82 h => ?_)))))))))))))
  refine pT rfl (pP rfl (pS rfl (pI rfl (kI h GTree.get rfl rfl rfl rfl rfl rfl rfl fun x85 h => ?_))))
  refine pT rfl (kC h rfl ⟨.inl rfl, .inl rfl, trivial⟩ rfl fun x87 h => ?_)
  refine pB rfl (dn (cB h (fun h => ?_) (fun h => ?_)))
  ·refine sN (pB rfl (dn (AWp.ret ?_)))
   subst h
   exact ⟨_, rfl, rfl⟩
  refine AWp.skip (rN ?_)
  obtain ⟨x89, ex89, h⟩ := h.get
  refine ai ex89 rfl (pI rfl (dn ?_))
  exact ⟨x89, h.1, h.2, sl⟩
 refine AWp.exit ?_
 refine sN (pB rfl (dn (AWp.ret ?_)))
 subst h
 exact ⟨_, rfl, rfl⟩
end Go.Sim.YtnnfiohdkobkdaaGreatDoor

/- What is proved: what parse.Parse yields for a text; any tree is like itself. -/
namespace Go.Sim.YtnnfiohdkobkdaaGreatDoor
open Go.RowKit Go.Proofs Go.Proofs.Tryz
def mkR (a d : Int) : GRat := (toR (makeS a d)).1
theorem mkR_ok {a d : Int} (h1 : -64 <= a) (h2 : a <= 64) (h3 : 1 <= d) (h4 : d <= 64) : (mkR a d).ok := by
 unfold mkR makeS madeS
 rw [if_neg (by omega)]
 have e1 : a.natAbs / Nat.gcd a.natAbs d.natAbs <= a.natAbs := Nat.div_le_self _ _
 have e2 : d.natAbs / Nat.gcd a.natAbs d.natAbs <= d.natAbs := Nat.div_le_self _ _
 generalize a.natAbs / Nat.gcd a.natAbs d.natAbs = x at e1 ⊢
 generalize d.natAbs / Nat.gcd a.natAbs d.natAbs = y at e2 ⊢
 rw [if_pos ⟨by omega, by omega⟩]
 refine ⟨?_, oki (k := (y : Int)) (by omega) (by omega)⟩
 show okInt .i64 (if _ then _ else _)
 split
 ·exact oki (k := -(x : Int)) (by omega) (by omega)
 ·exact oki (k := (x : Int)) (by omega) (by omega)
theorem ok_inI {a : GRat} (h : a.ok) : a.inI := by
 have e1 : IntKind.i64.min = -9223372036854775808 := rfl
 have e2 : IntKind.i64.max = 9223372036854775807 := rfl
 obtain ⟨⟨h1, h2⟩, h3, h4⟩ := h
 rw [e1] at h1 h3
 rw [e2] at h2 h4
 exact ⟨⟨h1, by omega⟩, h3, by omega⟩
theorem mk_evP {a d : Int} (h1 : -64 <= a) (h2 : a <= 64) (h3 : 1 <= d) (h4 : d <= 64) : Ev_rat_Make a d (mkR a d, (toR (makeS a d)).2) := by
 refine walk_rat_Make ?_
 unfold W_rat_Make
 refine Br.eF (by omega) (Call.mk (rsize_ev ⟨by omega, by omega⟩) (Call.mk (rsize_ev ⟨by omega, by omega⟩) (Call.mk (made_ev _ _ _ (by omega) (by omega) (by omega)) ?_)))
 show (_, _) = (_, _)
 unfold mkR makeS
 rw [if_neg (by omega)]
theorem parse_evK (s : ByteArray) : Ev_parse_Parse s (parseS mkR (lexS lexK (tl s 0))) :=
 parseAll_ev (fun _ h => right_ev (ok_inI h)) (fun _ _ h1 h2 h3 h4 => ⟨mkR_ok h1 h2 h3 h4, _, mk_evP h1 h2 h3 h4⟩) (lex_ev lexK_ok s) lexS_us
theorem likeTree_self (a : GTree) (ha : a.ok) : Ev_ref13_Like a a true := by
 have hm : maxLen = 9223372036854775807 := rfl
 have ih : ∀ x ∈ a.Kids, Ev_ref13_Like x x true := fun x hx => likeTree_self x (kids_ok ha x hx)
 have k1 := kids_le ha
 refine walk_ref13_Like ?_
 unfold W_ref13_Like
 refine Br.f (by simp) (Br.f (by simp) (Br.f (by simp) (Br.f (by simp) (Br.f (by simp) (Br.f (by simp) (Br.f (by rw [rat_beq_self]; rfl) (Br.f (by simp) ?_)))))))
 refine Loop1.up a.Kids.length (fun _ => True) trivial fun i k hi _ hk => Br.d (fun hlt => ?_) fun _ => rfl
 refine At.mk (by omega) (by omega) fun x hx => ?_
 rw [Int.toNat_natCast] at hx
 refine ⟨by omega, x, by rw [Int.toNat_natCast]; exact hx, Call.mk (ih x (List.mem_of_getElem? hx)) (Br.f rfl (Let.as _ (wi1 (by omega)) (hk (by omega) trivial)))⟩
termination_by SizeOf.sizeOf a
decreasing_by
 have := List.sizeOf_lt_of_mem hx
 cases a; simp at this ⊢; omega
end Go.Sim.YtnnfiohdkobkdaaGreatDoor
