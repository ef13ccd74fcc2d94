/- What is proved: functions of the program compute what plain statements tell. -/
import Derived.Test.YtomeghkmdcfolaaGreatDoorZPPWE

namespace Go.Sim.YtomeghkmdcfolaaGreatDoor
open Go.RowKit Go.Proofs Go.Proofs.Tryz
set_option maxRecDepth 100000
def W_law13_ParsePrints (t1 : GTree) (Q : Bool -> Prop) : Prop :=
 Call (Ev_parse_Print t1) fun x2 =>
 Call (Ev_ref13_Print t1) fun x4 =>
 Br (x2.1.toList == x4.1.toList) (Q (x2.2 == x4.2)) (
 Q false)
theorem walk_law13_ParsePrints {t1 : GTree} {r : Bool} (h : W_law13_ParsePrints t1 (fun r' => r' = r)) : Ev_law13_ParsePrints t1 r := by
 unfold W_law13_ParsePrints at h
 refine intr (L := [(0, .dat (GTree.out t1))]) Tryz.func3 Tryz.ntmps3 ?_
 refine sN (bx (v := .dat (.st _ _)) ?_)
 refine pB rfl (dn (AWp.seq (rN (pT rfl (kC h rfl ⟨.inl rfl, trivial⟩ rfl fun x2 h => ?_)))))
 refine pU rfl (pG rfl (pI rfl (pG rfl (pI rfl (dn (AWp.seq (rN (pT rfl (kC h rfl ⟨.inl rfl, trivial⟩ rfl fun x4 h => ?_)))))))))
 refine pU rfl (pG rfl (pI rfl (pG rfl (pI rfl (dn (AWp.seq (rN (pG rfl (pG rfl (pB rfl (pB rfl (sB 20 h (fun h => ?_) (fun h => ?_)))))))))))))
 ·refine pI rfl (pI rfl (pB rfl (pB rfl (pB rfl (dn (AWp.ret ?_))))))
  subst h
  exact ⟨_, rfl, rfl⟩
 refine fo 3 rfl (pB rfl (pB rfl (dn (AWp.ret ?_))))
 subst h
 exact ⟨_, rfl, rfl⟩
def W_parse_Print (t1 : GTree) (Q : ByteArray × Int -> Prop) : Prop :=
 Call (Ev_parse_Right t1) fun x2 =>
 Br (x2 != (0 : Int)) (Q ((ByteArray.mk #[]), x2)) (
 Call (Ev_parse_text t1) fun x4 =>
 Br (decide (((x4.size : Nat) : Int) > (20000 : Int))) (Q ((ByteArray.mk #[]), (2 : Int))) (
 Call (Ev_lex_Lex x4) fun x6 =>
 Br (x6.2.1 != (0 : Int)) (Q ((ByteArray.mk #[]), (2 : Int))) (
 Q (x4, (0 : Int)))))
theorem walk_parse_Print {t1 : GTree} {r : ByteArray × Int} (h : W_parse_Print t1 (fun r' => r' = r)) : Ev_parse_Print t1 r := by
 unfold W_parse_Print at h
 refine intr (L := [(0, .dat (GTree.out t1))]) Tryz.func4 Tryz.ntmps4 ?_
 refine sN (bx (v := .dat (.st _ _)) ?_)
 refine pG rfl (pI rfl (dn (AWp.seq (AWp.seq (rN (pT rfl (kC h rfl ⟨.inl rfl, trivial⟩ rfl fun x2 h => ?_)))))))
 refine pI rfl (dn (AWp.seq (rN (pI rfl (pB rfl (dn (cB h (fun h => ?_) (fun h => ?_))))))))
 ·refine sN (pI rfl (pG rfl (pI rfl (dn (AWp.ret ?_)))))
  subst h
  exact ⟨_, rfl, rfl⟩
 refine AWp.skip (AWp.seq (rN (pT rfl (kC h rfl ⟨.inl rfl, trivial⟩ rfl fun x4 h => ?_))))
 refine pG rfl (dn (AWp.seq (AWp.seq (rN (pG rfl (pI rfl (pB rfl (dn (cB h (fun h => ?_) (fun h => ?_))))))))))
 ·refine sN (pG rfl (pI rfl (dn (AWp.ret ?_))))
  subst h
  exact ⟨_, rfl, rfl⟩
 refine AWp.skip (AWp.seq (AWp.seq (rN (pG rfl (kC h rfl ⟨.inl rfl, trivial⟩ rfl fun x6 h => ?_)))))
 refine pU rfl (pS rfl (pI rfl (pI rfl (pS rfl (pI rfl (pI rfl (dn (AWp.seq (rN (pI rfl (pB rfl (dn (cB h (fun h => ?_) (fun h => ?_))))))))))))))
 ·refine sN (pG rfl (pI rfl (dn (AWp.ret ?_))))
  subst h
  exact ⟨_, rfl, rfl⟩
 refine AWp.skip (AWp.seq (rN (pG rfl (pG rfl (pI rfl (dn (AWp.ret ?_)))))))
 subst h
 exact ⟨_, rfl, rfl⟩
def W_ref13_Print (t1 : GTree) (Q : ByteArray × Int -> Prop) : Prop :=
 Call (Ev_ref13_Right t1) fun x2 =>
 Br (x2 != (0 : Int)) (Q ((ByteArray.mk #[]), x2)) (
 Call (Ev_ref13_Text t1) fun x4 =>
 Br (decide (((x4.size : Nat) : Int) > (20000 : Int))) (Q ((ByteArray.mk #[]), (2 : Int))) (
 Call (Ev_ref12_Lex x4) fun x6 =>
 Br (x6.2.1 != (0 : Int)) (Q ((ByteArray.mk #[]), (2 : Int))) (
 Q (x4, (0 : Int)))))
theorem walk_ref13_Print {t1 : GTree} {r : ByteArray × Int} (h : W_ref13_Print t1 (fun r' => r' = r)) : Ev_ref13_Print t1 r := by
 unfold W_ref13_Print at h
 refine intr (L := [(0, .dat (GTree.out t1))]) Tryz.func5 Tryz.ntmps5 ?_
 refine sN (bx (v := .dat (.st _ _)) ?_)
 refine pG rfl (pI rfl (dn (AWp.seq (rN (pT rfl (kC h rfl ⟨.inl rfl, trivial⟩ rfl fun x2 h => ?_))))))
 refine pI rfl (dn (AWp.seq (AWp.seq (rN (pI rfl (pB rfl (dn (cB h (fun h => ?_) (fun h => ?_)))))))))
 ·refine sN (pI rfl (pG rfl (pI rfl (dn (AWp.ret ?_)))))
  subst h
  exact ⟨_, rfl, rfl⟩
 refine AWp.skip (AWp.seq (rN (pT rfl (kC h rfl ⟨.inl rfl, trivial⟩ rfl fun x4 h => ?_))))
 refine pG rfl (dn (AWp.seq (AWp.seq (rN (pG rfl (pI rfl (pB rfl (dn (cB h (fun h => ?_) (fun h => ?_))))))))))
 ·refine sN (pG rfl (pI rfl (dn (AWp.ret ?_))))
  subst h
  exact ⟨_, rfl, rfl⟩
 refine AWp.skip (AWp.seq (rN (pG rfl (kC h rfl ⟨.inl rfl, trivial⟩ rfl fun x6 h => ?_))))
 refine pU rfl (pS rfl (pI rfl (pI rfl (pS rfl (pI rfl (pI rfl (dn (AWp.seq (AWp.seq (rN (pI rfl (pB rfl (dn (cB h (fun h => ?_) (fun h => ?_)))))))))))))))
 ·refine sN (pG rfl (pI rfl (dn (AWp.ret ?_))))
  subst h
  exact ⟨_, rfl, rfl⟩
 refine AWp.skip (AWp.seq (rN (pG rfl (pG rfl (pI rfl (dn (AWp.ret ?_)))))))
 subst h
 exact ⟨_, rfl, rfl⟩
def W_parse_text (x1 : GTree) (Q : ByteArray -> Prop) : Prop :=
 Br (x1.Kind == (30 : Int)) (
 Call (Ev_parse_join x1.Kids (ByteArray.mk #[10]) Fn_parse_text) fun x176 =>
 Q x176) (
 Br (x1.Kind == (31 : Int)) (
 Cat (ByteArray.mk #[117, 110, 105, 116, 32]) x1.Name fun x178 =>
 Call (Ev_parse_join x1.Kids (ByteArray.mk #[]) Fn_parse_text_1) fun x179 =>
 Cat x178 x179 fun x181 =>
 Cat x181 (ByteArray.mk #[59]) fun x182 =>
 Q x182) (
 Br (x1.Kind == (32 : Int)) (
 At ([(ByteArray.mk #[]), (ByteArray.mk #[109, 111, 100, 101, 108, 32]), (ByteArray.mk #[99, 111, 110, 110, 101, 99, 116, 111, 114, 32])]) x1.N fun x184 =>
 Cat x184 x1.Name fun x186 =>
 Cat x186 (ByteArray.mk #[10]) fun x187 =>
 Call (Ev_parse_join x1.Kids (ByteArray.mk #[]) Fn_parse_text_2) fun x188 =>
 Cat x187 x188 fun x190 =>
 Cat x190 (ByteArray.mk #[101, 110, 100, 59]) fun x191 =>
 Q x191) (
 Br (x1.Kind == (33 : Int)) (
 Cat (ByteArray.mk #[112, 97, 114, 97, 109, 32]) x1.Name fun x192 =>
 At x1.Kids (0 : Int) fun x194 =>
 Call (Ev_parse_text x194) fun x196 =>
 Cat x192 x196 fun x198 =>
 Cat x198 (ByteArray.mk #[32, 61, 32]) fun x199 =>
 At x1.Kids (1 : Int) fun x201 =>
 Call (Ev_parse_text x201) fun x203 =>
 Cat x199 x203 fun x205 =>
 Cat x205 (ByteArray.mk #[59]) fun x206 =>
 Q x206) (
 Br (x1.Kind == (34 : Int)) (
 Join1 (fun j208 =>
 Br x1.Flag (j208 (ByteArray.mk #[102, 108, 111, 119, 32])) (
 j208 (ByteArray.mk #[118, 97, 114, 32]))
 ) (fun (x207 : ByteArray) =>
 Cat x207 x1.Name fun x209 =>
 Call (Ev_parse_array x1.N) fun x210 =>
 Cat x209 x210 fun x212 =>
 At x1.Kids (0 : Int) fun x214 =>
 Call (Ev_parse_text x214) fun x216 =>
 Cat x212 x216 fun x218 =>
 Cat x218 (ByteArray.mk #[59]) fun x219 =>
 Q x219)) (
 Br (x1.Kind == (35 : Int)) (
 Join1 (fun j228 =>
 Br (decide (((x1.Kids.length : Nat) : Int) > (0 : Int))) (
 Call (Ev_parse_join x1.Kids (ByteArray.mk #[44, 32]) Fn_parse_text) fun x229 =>
 Cat (ByteArray.mk #[40]) x229 fun x231 =>
 Cat x231 (ByteArray.mk #[41]) fun x232 =>
 j228 x232) (
 j228 (ByteArray.mk #[]))
 ) (fun (x227 : ByteArray) =>
 Cat (ByteArray.mk #[112, 97, 114, 116, 32]) x1.Name fun x233 =>
 Call (Ev_parse_array x1.N) fun x234 =>
 Cat x233 x234 fun x236 =>
 Cat x236 (ByteArray.mk #[58, 32]) fun x237 =>
 Cat x237 x1.Alias fun x238 =>
 Cat x238 x227 fun x239 =>
 Cat x239 (ByteArray.mk #[59]) fun x240 =>
 Q x240)) (
 Br (x1.Kind == (36 : Int)) (
 Cat x1.Name (ByteArray.mk #[32, 61, 32]) fun x243 =>
 At x1.Kids (0 : Int) fun x245 =>
 Call (Ev_parse_text x245) fun x247 =>
 Cat x243 x247 fun x249 =>
 Q x249) (
 Br (x1.Kind == (37 : Int)) (
 At x1.Kids (1 : Int) fun x251 =>
 At x1.Kids (2 : Int) fun x254 =>
 Call (Ev_parse_equal x251 x254) fun x256 =>
 Br x256 (
 At x1.Kids (0 : Int) fun x273 =>
 Call (Ev_parse_text x273) fun x275 =>
 Cat (ByteArray.mk #[115, 116, 97, 114, 116, 32]) x275 fun x277 =>
 Cat x277 (ByteArray.mk #[32, 61, 32]) fun x278 =>
 At x1.Kids (1 : Int) fun x280 =>
 Call (Ev_parse_text x280) fun x282 =>
 Cat x278 x282 fun x284 =>
 Cat x284 (ByteArray.mk #[59]) fun x285 =>
 Q x285) (
 At x1.Kids (0 : Int) fun x287 =>
 Call (Ev_parse_text x287) fun x289 =>
 Cat (ByteArray.mk #[115, 116, 97, 114, 116, 32]) x289 fun x291 =>
 Cat x291 (ByteArray.mk #[32, 105, 110, 32, 91]) fun x292 =>
 At x1.Kids (1 : Int) fun x294 =>
 Call (Ev_parse_text x294) fun x296 =>
 Cat x292 x296 fun x298 =>
 Cat x298 (ByteArray.mk #[44, 32]) fun x299 =>
 At x1.Kids (2 : Int) fun x301 =>
 Call (Ev_parse_text x301) fun x303 =>
 Cat x299 x303 fun x305 =>
 Cat x305 (ByteArray.mk #[93, 59]) fun x306 =>
 Q x306)) (
 Br (x1.Kind == (38 : Int)) (
 At x1.Kids (0 : Int) fun x308 =>
 Call (Ev_parse_text x308) fun x310 =>
 Cat (ByteArray.mk #[99, 111, 110, 110, 101, 99, 116, 40]) x310 fun x312 =>
 Cat x312 (ByteArray.mk #[44, 32]) fun x313 =>
 At x1.Kids (1 : Int) fun x315 =>
 Call (Ev_parse_text x315) fun x317 =>
 Cat x313 x317 fun x319 =>
 Cat x319 (ByteArray.mk #[41, 59]) fun x320 =>
 Q x320) (
 Br (x1.Kind == (39 : Int)) (
 At x1.Kids (0 : Int) fun x322 =>
 Call (Ev_parse_text x322) fun x324 =>
 Cat x324 (ByteArray.mk #[32, 61, 32]) fun x326 =>
 At x1.Kids (1 : Int) fun x328 =>
 Call (Ev_parse_text x328) fun x330 =>
 Cat x326 x330 fun x332 =>
 Cat x332 (ByteArray.mk #[59]) fun x333 =>
 Q x333) (
 Br (x1.Kind == (40 : Int)) (
 Cat (ByteArray.mk #[102, 111, 114, 32]) x1.Name fun x334 =>
 Cat x334 (ByteArray.mk #[32, 105, 110, 32]) fun x335 =>
 Call (Ev_strconv_Itoa x1.N) fun x336 =>
 Cat x335 x336 fun x338 =>
 Cat x338 (ByteArray.mk #[46, 46]) fun x339 =>
 Call (Ev_strconv_Itoa x1.M) fun x340 =>
 Cat x339 x340 fun x342 =>
 Cat x342 (ByteArray.mk #[32, 100, 111, 10]) fun x343 =>
 Call (Ev_parse_join x1.Kids (ByteArray.mk #[]) Fn_parse_text_3) fun x344 =>
 Cat x343 x344 fun x346 =>
 Cat x346 (ByteArray.mk #[101, 110, 100, 59]) fun x347 =>
 Q x347) (
 Br (x1.Kind == (41 : Int)) (
 Call (Ev_parse_join x1.Kids (ByteArray.mk #[]) Fn_parse_text_4) fun x348 =>
 Q x348) (
 Call (Ev_parse_exprText x1) fun x350 =>
 Q x350))))))))))))
theorem walk_parse_text {x1 : GTree} {r : ByteArray} (h : W_parse_text x1 (fun r' => r' = r)) : Ev_parse_text x1 r := by
 unfold W_parse_text at h
 refine intr (L := [(0, .dat (GTree.out x1))]) Tryz.func7 Tryz.ntmps7 ?_
 refine sN (bx (v := .dat (.st _ _)) ?_)
 refine pG rfl (dn (AWp.seq (rN (pP rfl (pS rfl (pS rfl (dn (AWp.seq (AWp.seq (rN (pP rfl (pI rfl (dn (AWp.block (AWp.seq (rN (pB rfl (pB rfl (dn (cB h (fun h => ?_) (fun h => ?_)))))))))))))))))))))
 ·refine sN (pS rfl (kC h rfl ⟨.inl rfl, .inl rfl, .inl rfl, trivial⟩ rfl fun x176 h => ?_))
  refine pG rfl (dn (AWp.ret ?_))
  subst h
  exact ⟨_, rfl, rfl⟩
 refine sN (pB rfl (pB rfl (dn (cB h (fun h => ?_) (fun h => ?_)))))
 ·refine sD (pP rfl (pG rfl (kc h rfl rfl rfl rfl fun x178 h => ?_)))
  refine pS rfl (kC h rfl ⟨.inl rfl, .inl rfl, .inl rfl, trivial⟩ rfl fun x179 h => ?_)
  refine kc h rfl rfl rfl rfl fun x181 h => kc h rfl rfl rfl rfl fun x182 h => pG rfl ?_
  subst h; exact dn (AWp.ret ⟨_, rfl, rfl⟩)
 refine sN (pB rfl (pB rfl (dn (cB h (fun h => ?_) (fun h => ?_)))))
 ·refine sD ?_
  refine AOps.lit tabOk (ys := [.v (.string (ByteArray.mk #[])), .v (.string (ByteArray.mk #[109, 111, 100, 101, 108, 32])), .v (.string (ByteArray.mk #[99, 111, 110, 110, 101, 99, 116, 111, 114, 32]))]) rfl rfl rfl rfl rfl rfl ?_
  refine pP rfl (pI rfl (kI h (map_get (e := eStr)) rfl rfl rfl rfl rfl rfl rfl fun x184 h => ?_))
  refine pG rfl (pP rfl (pG rfl (kc h rfl rfl rfl rfl fun x186 h => ?_)))
  refine kc h rfl rfl rfl rfl fun x187 h => pS rfl ?_
  refine kC h rfl ⟨.inl rfl, .inl rfl, .inl rfl, trivial⟩ rfl fun x188 h => kc h rfl rfl rfl rfl fun x190 h => kc h rfl rfl rfl rfl fun x191 h => pG rfl ?_
  subst h; exact dn (AWp.ret ⟨_, rfl, rfl⟩)
 refine sN (pB rfl (pB rfl (dn (cB h (fun h => ?_) (fun h => ?_)))))
 ·refine sD (pP rfl (pG rfl (kc h rfl rfl rfl rfl fun x192 h => ?_)))
  refine pS rfl (kI h GTree.get rfl rfl rfl rfl rfl rfl rfl fun x194 h => ?_)
  refine pT rfl (kC h rfl ⟨.inl rfl, trivial⟩ rfl fun x196 h => ?_)
  refine kc h rfl rfl rfl rfl fun x198 h => kc h rfl rfl rfl rfl fun x199 h => pS rfl ?_
  refine kI h GTree.get rfl rfl rfl rfl rfl rfl rfl fun x201 h => pT rfl ?_
  refine kC h rfl ⟨.inl rfl, trivial⟩ rfl fun x203 h => kc h rfl rfl rfl rfl fun x205 h => kc h rfl rfl rfl rfl fun x206 h => pG rfl ?_
  subst h; exact dn (AWp.ret ⟨_, rfl, rfl⟩)
 refine sN (pB rfl (pB rfl (dn (cB h (fun h => ?_) (fun h => ?_)))))
 ·refine sN (pG rfl (dn (AWp.seq (AWp.seq (rN (pP rfl (pB rfl (dn ?_))))))))
  obtain ⟨J220, h, hk221⟩ := h
  refine AWp.cutK (I := fun p : ByteArray => mkSt [(1, .pt 1 [] 0), (3, .dat (.sl 26 9 (List.map GTree.enc x1.Kids))), (4, .dat (.v (.string p)))] [(1, .box 26 9 (.dat (GTree.out x1)))]) (Inv := fun p : ByteArray => J220 p) ?_ (fun p hp => ?_)
  ·refine cB h (fun h => ?_) (fun h => ?_)
   ·refine rN (pG rfl (dn ?_))
    exact ⟨(ByteArray.mk #[102, 108, 111, 119, 32]), h, sl⟩
   refine AWp.skip ?_
   exact ⟨(ByteArray.mk #[118, 97, 114, 32]), h, sl⟩
  replace h := hk221 p hp
  revert h; clear hp; generalize p = x207; intro h
  refine sD (pG rfl (pP rfl (pG rfl (kc h rfl rfl rfl rfl fun x209 h => ?_))))
  refine pP rfl (pI rfl (kC h rfl ⟨.inl rfl, trivial⟩ rfl fun x210 h => ?_))
  refine kc h rfl rfl rfl rfl fun x212 h => pS rfl ?_
  refine kI h GTree.get rfl rfl rfl rfl rfl rfl rfl fun x214 h => pT rfl ?_
  refine kC h rfl ⟨.inl rfl, trivial⟩ rfl fun x216 h => kc h rfl rfl rfl rfl fun x218 h => kc h rfl rfl rfl rfl fun x219 h => pG rfl ?_
  subst h; exact dn (AWp.ret ⟨_, rfl, rfl⟩)
 refine sN (pB rfl (pB rfl (dn (cB h (fun h => ?_) (fun h => ?_)))))
 ·refine sN (pG rfl (dn (AWp.seq (AWp.seq (rN (pS rfl (al (((x1.Kids.length : Nat) : Int)) rfl (pB rfl (dn ?_)))))))))
  obtain ⟨J241, h, hk242⟩ := h
  refine AWp.cutK (I := fun p : ByteArray => mkSt [(1, .pt 1 [] 0), (5, .dat (.v (.string p)))] [(1, .box 26 9 (.dat (GTree.out x1)))]) (Inv := fun p : ByteArray => J241 p) ?_ (fun p hp => ?_)
  ·refine cB h (fun h => ?_) (fun h => ?_)
   ·refine rN (pS rfl (kC h rfl ⟨.inl rfl, .inl rfl, .inl rfl, trivial⟩ rfl fun x229 h => ?_))
    refine kc h rfl rfl rfl rfl fun x231 h => kc h rfl rfl rfl rfl fun x232 h => pG rfl ?_
    refine dn ?_
    exact ⟨x232, h, sl⟩
   refine AWp.skip ?_
   exact ⟨(ByteArray.mk #[]), h, sl⟩
  replace h := hk242 p hp
  revert h; clear hp; generalize p = x227; intro h
  refine sD (pP rfl (pG rfl (kc h rfl rfl rfl rfl fun x233 h => ?_)))
  refine pP rfl (pI rfl (kC h rfl ⟨.inl rfl, trivial⟩ rfl fun x234 h => ?_))
  refine kc h rfl rfl rfl rfl fun x236 h => kc h rfl rfl rfl rfl fun x237 h => pP rfl ?_
  refine pG rfl (kc h rfl rfl rfl rfl fun x238 h => ?_)
  refine pG rfl (kc h rfl rfl rfl rfl fun x239 h => ?_)
  refine kc h rfl rfl rfl rfl fun x240 h => pG rfl ?_
  subst h; exact dn (AWp.ret ⟨_, rfl, rfl⟩)
 refine sN (pB rfl (pB rfl (dn (cB h (fun h => ?_) (fun h => ?_)))))
 ·refine sD (pP rfl (pG rfl (kc h rfl rfl rfl rfl fun x243 h => ?_)))
  refine pS rfl (kI h GTree.get rfl rfl rfl rfl rfl rfl rfl fun x245 h => ?_)
  refine pT rfl (kC h rfl ⟨.inl rfl, trivial⟩ rfl fun x247 h => ?_)
  refine kc h rfl rfl rfl rfl fun x249 h => pG rfl ?_
  subst h; exact dn (AWp.ret ⟨_, rfl, rfl⟩)
 refine sN (pB rfl (pB rfl (dn (cB h (fun h => ?_) (fun h => ?_)))))
 ·refine AWp.seq (AWp.seq (rD (pS rfl (kI h GTree.get rfl rfl rfl rfl rfl rfl rfl fun x251 h => ?_))))
  refine pT rfl (pS rfl (kI h GTree.get rfl rfl rfl rfl rfl rfl rfl fun x254 h => ?_))
  refine pT rfl (kC h rfl ⟨.inl rfl, .inl rfl, trivial⟩ rfl fun x256 h => ?_)
  refine dn (cB h (fun h => ?_) (fun h => ?_))
  ·refine sD (pS rfl (kI h GTree.get rfl rfl rfl rfl rfl rfl rfl fun x273 h => ?_))
   refine pT rfl (kC h rfl ⟨.inl rfl, trivial⟩ rfl fun x275 h => ?_)
   refine kc h rfl rfl rfl rfl fun x277 h => kc h rfl rfl rfl rfl fun x278 h => pS rfl ?_
   refine kI h GTree.get rfl rfl rfl rfl rfl rfl rfl fun x280 h => pT rfl ?_
   refine kC h rfl ⟨.inl rfl, trivial⟩ rfl fun x282 h => kc h rfl rfl rfl rfl fun x284 h => kc h rfl rfl rfl rfl fun x285 h => pG rfl ?_
   subst h; exact dn (AWp.ret ⟨_, rfl, rfl⟩)
  refine AWp.skip (AWp.seq (rD (pS rfl (kI h GTree.get rfl rfl rfl rfl rfl rfl rfl fun x287 h => ?_))))
  refine pT rfl (kC h rfl ⟨.inl rfl, trivial⟩ rfl fun x289 h => ?_)
  refine kc h rfl rfl rfl rfl fun x291 h => kc h rfl rfl rfl rfl fun x292 h => pS rfl ?_
  refine kI h GTree.get rfl rfl rfl rfl rfl rfl rfl fun x294 h => pT rfl ?_
  refine kC h rfl ⟨.inl rfl, trivial⟩ rfl fun x296 h => kc h rfl rfl rfl rfl fun x298 h => kc h rfl rfl rfl rfl fun x299 h => pS rfl ?_
  refine kI h GTree.get rfl rfl rfl rfl rfl rfl rfl fun x301 h => pT rfl ?_
  refine kC h rfl ⟨.inl rfl, trivial⟩ rfl fun x303 h => kc h rfl rfl rfl rfl fun x305 h => kc h rfl rfl rfl rfl fun x306 h => pG rfl ?_
  subst h; exact dn (AWp.ret ⟨_, rfl, rfl⟩)
 refine sN (pB rfl (pB rfl (dn (cB h (fun h => ?_) (fun h => ?_)))))
 ·refine sD (pS rfl (kI h GTree.get rfl rfl rfl rfl rfl rfl rfl fun x308 h => ?_))
  refine pT rfl (kC h rfl ⟨.inl rfl, trivial⟩ rfl fun x310 h => ?_)
  refine kc h rfl rfl rfl rfl fun x312 h => kc h rfl rfl rfl rfl fun x313 h => pS rfl ?_
  refine kI h GTree.get rfl rfl rfl rfl rfl rfl rfl fun x315 h => pT rfl ?_
  refine kC h rfl ⟨.inl rfl, trivial⟩ rfl fun x317 h => kc h rfl rfl rfl rfl fun x319 h => kc h rfl rfl rfl rfl fun x320 h => pG rfl ?_
  subst h; exact dn (AWp.ret ⟨_, rfl, rfl⟩)
 refine sN (pB rfl (pB rfl (dn (cB h (fun h => ?_) (fun h => ?_)))))
 ·refine sD (pS rfl (kI h GTree.get rfl rfl rfl rfl rfl rfl rfl fun x322 h => ?_))
  refine pT rfl (kC h rfl ⟨.inl rfl, trivial⟩ rfl fun x324 h => ?_)
  refine kc h rfl rfl rfl rfl fun x326 h => pS rfl ?_
  refine kI h GTree.get rfl rfl rfl rfl rfl rfl rfl fun x328 h => pT rfl ?_
  refine kC h rfl ⟨.inl rfl, trivial⟩ rfl fun x330 h => kc h rfl rfl rfl rfl fun x332 h => kc h rfl rfl rfl rfl fun x333 h => pG rfl ?_
  subst h; exact dn (AWp.ret ⟨_, rfl, rfl⟩)
 refine sN (pB rfl (pB rfl (dn (cB h (fun h => ?_) (fun h => ?_)))))
 ·refine sD (pP rfl (pG rfl (kc h rfl rfl rfl rfl fun x334 h => ?_)))
  refine kc h rfl rfl rfl rfl fun x335 h => pP rfl ?_
  refine pI rfl (kC h rfl ⟨.inl rfl, trivial⟩ rfl fun x336 h => ?_)
  refine kc h rfl rfl rfl rfl fun x338 h => kc h rfl rfl rfl rfl fun x339 h => pP rfl ?_
  refine pI rfl (kC h rfl ⟨.inl rfl, trivial⟩ rfl fun x340 h => ?_)
  refine kc h rfl rfl rfl rfl fun x342 h => kc h rfl rfl rfl rfl fun x343 h => pS rfl ?_
  refine kC h rfl ⟨.inl rfl, .inl rfl, .inl rfl, trivial⟩ rfl fun x344 h => kc h rfl rfl rfl rfl fun x346 h => kc h rfl rfl rfl rfl fun x347 h => pG rfl ?_
  subst h; exact dn (AWp.ret ⟨_, rfl, rfl⟩)
 refine sN (pB rfl (pB rfl (dn (cB h (fun h => ?_) (fun h => ?_)))))
 ·refine sN (pS rfl (kC h rfl ⟨.inl rfl, .inl rfl, .inl rfl, trivial⟩ rfl fun x348 h => ?_))
  refine pG rfl (dn (AWp.ret ?_))
  subst h
  exact ⟨_, rfl, rfl⟩
 refine AWp.skip (AWp.seq (rN (pT rfl (kC h rfl ⟨.inl rfl, trivial⟩ rfl fun x350 h => ?_))))
 refine pG rfl (dn (AWp.ret ?_))
 subst h
 exact ⟨_, rfl, rfl⟩
def W_ref13_Text (x1 : GTree) (Q : ByteArray -> Prop) : Prop :=
 Br (x1.Kind == (30 : Int)) (
 Loop2 (ByteArray.mk #[]) (0 : Int) (fun (x554 : ByteArray) (x555 : Int) next556 =>
 Br (decide (x555 < ((x1.Kids.length : Nat) : Int))) (
 Join1 (fun j571 =>
 Br (decide (x555 > (0 : Int))) (
 Cat x554 (ByteArray.mk #[10]) fun x572 =>
 j571 x572) (
 j571 x554)
 ) (fun (x570 : ByteArray) =>
 At x1.Kids x555 fun x574 =>
 Call (Ev_ref13_Text x574) fun x576 =>
 Cat x570 x576 fun x578 =>
 Let (IntKind.i64.wrap (x555 + (1 : Int))) fun x579 =>
 next556 x578 x579)) (
 Q x554))) (
 Br (x1.Kind == (31 : Int)) (
 Cat (ByteArray.mk #[117, 110, 105, 116, 32]) x1.Name fun x586 =>
 Call (Ev_ref13_opt x1.Kids (ByteArray.mk #[32, 61, 32])) fun x587 =>
 Cat x586 x587 fun x589 =>
 Cat x589 (ByteArray.mk #[59]) fun x590 =>
 Q x590) (
 Br (x1.Kind == (32 : Int)) (
 Join1 (fun j592 =>
 Br (x1.N == (2 : Int)) (j592 (ByteArray.mk #[99, 111, 110, 110, 101, 99, 116, 111, 114, 32])) (
 j592 (ByteArray.mk #[109, 111, 100, 101, 108, 32]))
 ) (fun (x591 : ByteArray) =>
 Cat x591 x1.Name fun x593 =>
 Cat x593 (ByteArray.mk #[10]) fun x594 =>
 Call (Ev_ref13_lines x1.Kids) fun x595 =>
 Cat x594 x595 fun x597 =>
 Cat x597 (ByteArray.mk #[101, 110, 100, 59]) fun x598 =>
 Q x598)) (
 Br (x1.Kind == (33 : Int)) (
 Cat (ByteArray.mk #[112, 97, 114, 97, 109, 32]) x1.Name fun x601 =>
 At x1.Kids (0 : Int) fun x603 =>
 Call (Ev_ref13_Text x603) fun x605 =>
 Cat x601 x605 fun x607 =>
 Cat x607 (ByteArray.mk #[32, 61, 32]) fun x608 =>
 At x1.Kids (1 : Int) fun x610 =>
 Call (Ev_ref13_Text x610) fun x612 =>
 Cat x608 x612 fun x614 =>
 Cat x614 (ByteArray.mk #[59]) fun x615 =>
 Q x615) (
 Br (x1.Kind == (34 : Int)) (
 Join1 (fun j617 =>
 Br x1.Flag (j617 (ByteArray.mk #[102, 108, 111, 119, 32])) (
 j617 (ByteArray.mk #[118, 97, 114, 32]))
 ) (fun (x616 : ByteArray) =>
 Cat x616 x1.Name fun x618 =>
 Call (Ev_ref13_size x1.N) fun x619 =>
 Cat x618 x619 fun x621 =>
 At x1.Kids (0 : Int) fun x623 =>
 Call (Ev_ref13_Text x623) fun x625 =>
 Cat x621 x625 fun x627 =>
 Cat x627 (ByteArray.mk #[59]) fun x628 =>
 Q x628)) (
 Br (x1.Kind == (35 : Int)) (
 Loop2 (ByteArray.mk #[]) (0 : Int) (fun (x768 : ByteArray) (x769 : Int) next770 =>
 Br (decide (x769 < ((x1.Kids.length : Nat) : Int))) (
 Join1 (fun j793 =>
 Br (decide (x769 > (0 : Int))) (
 Cat x768 (ByteArray.mk #[44, 32]) fun x794 =>
 j793 x794) (
 j793 x768)
 ) (fun (x792 : ByteArray) =>
 At x1.Kids x769 fun x796 =>
 Cat x792 x796.Name fun x798 =>
 Cat x798 (ByteArray.mk #[32, 61, 32]) fun x799 =>
 At x1.Kids x769 fun x801 =>
 At x801.Kids (0 : Int) fun x804 =>
 Call (Ev_ref13_Text x804) fun x806 =>
 Cat x799 x806 fun x808 =>
 Let (IntKind.i64.wrap (x769 + (1 : Int))) fun x809 =>
 next770 x808 x809)) (
 Join1 (fun j815 =>
 Br (!(x768.toList == (ByteArray.mk #[]).toList)) (
 Cat (ByteArray.mk #[40]) x768 fun x816 =>
 Cat x816 (ByteArray.mk #[41]) fun x817 =>
 j815 x817) (
 j815 x768)
 ) (fun (x814 : ByteArray) =>
 Cat (ByteArray.mk #[112, 97, 114, 116, 32]) x1.Name fun x818 =>
 Call (Ev_ref13_size x1.N) fun x819 =>
 Cat x818 x819 fun x821 =>
 Cat x821 (ByteArray.mk #[58, 32]) fun x822 =>
 Cat x822 x1.Alias fun x823 =>
 Cat x823 x814 fun x824 =>
 Cat x824 (ByteArray.mk #[59]) fun x825 =>
 Q x825)))) (
 Br (x1.Kind == (37 : Int)) (
 At x1.Kids (1 : Int) fun x833 =>
 At x1.Kids (2 : Int) fun x836 =>
 Call (Ev_ref13_Like x833 x836) fun x838 =>
 Br x838 (
 At x1.Kids (0 : Int) fun x855 =>
 Call (Ev_ref13_Text x855) fun x857 =>
 Cat (ByteArray.mk #[115, 116, 97, 114, 116, 32]) x857 fun x859 =>
 Cat x859 (ByteArray.mk #[32, 61, 32]) fun x860 =>
 At x1.Kids (1 : Int) fun x862 =>
 Call (Ev_ref13_Text x862) fun x864 =>
 Cat x860 x864 fun x866 =>
 Cat x866 (ByteArray.mk #[59]) fun x867 =>
 Q x867) (
 At x1.Kids (0 : Int) fun x869 =>
 Call (Ev_ref13_Text x869) fun x871 =>
 Cat (ByteArray.mk #[115, 116, 97, 114, 116, 32]) x871 fun x873 =>
 Cat x873 (ByteArray.mk #[32, 105, 110, 32, 91]) fun x874 =>
 At x1.Kids (1 : Int) fun x876 =>
 Call (Ev_ref13_Text x876) fun x878 =>
 Cat x874 x878 fun x880 =>
 Cat x880 (ByteArray.mk #[44, 32]) fun x881 =>
 At x1.Kids (2 : Int) fun x883 =>
 Call (Ev_ref13_Text x883) fun x885 =>
 Cat x881 x885 fun x887 =>
 Cat x887 (ByteArray.mk #[93, 59]) fun x888 =>
 Q x888)) (
 Br (x1.Kind == (38 : Int)) (
 At x1.Kids (0 : Int) fun x890 =>
 Call (Ev_ref13_Text x890) fun x892 =>
 Cat (ByteArray.mk #[99, 111, 110, 110, 101, 99, 116, 40]) x892 fun x894 =>
 Cat x894 (ByteArray.mk #[44, 32]) fun x895 =>
 At x1.Kids (1 : Int) fun x897 =>
 Call (Ev_ref13_Text x897) fun x899 =>
 Cat x895 x899 fun x901 =>
 Cat x901 (ByteArray.mk #[41, 59]) fun x902 =>
 Q x902) (
 Br (x1.Kind == (39 : Int)) (
 At x1.Kids (0 : Int) fun x904 =>
 Call (Ev_ref13_Text x904) fun x906 =>
 Cat x906 (ByteArray.mk #[32, 61, 32]) fun x908 =>
 At x1.Kids (1 : Int) fun x910 =>
 Call (Ev_ref13_Text x910) fun x912 =>
 Cat x908 x912 fun x914 =>
 Cat x914 (ByteArray.mk #[59]) fun x915 =>
 Q x915) (
 Br (x1.Kind == (40 : Int)) (
 Cat (ByteArray.mk #[102, 111, 114, 32]) x1.Name fun x916 =>
 Cat x916 (ByteArray.mk #[32, 105, 110, 32]) fun x917 =>
 Call (Ev_ref13_num x1.N) fun x918 =>
 Cat x917 x918 fun x920 =>
 Cat x920 (ByteArray.mk #[46, 46]) fun x921 =>
 Call (Ev_ref13_num x1.M) fun x922 =>
 Cat x921 x922 fun x924 =>
 Cat x924 (ByteArray.mk #[32, 100, 111, 10]) fun x925 =>
 Call (Ev_ref13_lines x1.Kids) fun x926 =>
 Cat x925 x926 fun x928 =>
 Cat x928 (ByteArray.mk #[101, 110, 100, 59]) fun x929 =>
 Q x929) (
 Br (x1.Kind == (41 : Int)) (
 Call (Ev_ref13_opt x1.Kids (ByteArray.mk #[58, 32])) fun x930 =>
 Q x930) (
 Call (Ev_ref13_low x1) fun x932 =>
 Q x932)))))))))))
theorem walk_ref13_Text {x1 : GTree} {r : ByteArray} (h : W_ref13_Text x1 (fun r' => r' = r)) : Ev_ref13_Text x1 r := by
 unfold W_ref13_Text at h
 refine intr (L := [(0, .dat (GTree.out x1))]) Tryz.func10 Tryz.ntmps10 ?_
 refine sN (bx (v := .dat (.st _ _)) ?_)
 refine pG rfl (dn (AWp.seq (rN (pP rfl (pS rfl (pS rfl (dn (AWp.seq (AWp.seq (rN (pP rfl (pI rfl (dn (AWp.block (AWp.seq (rN (pB rfl (pB rfl (dn (cB h (fun h => ?_) (fun h => ?_)))))))))))))))))))))
 ·refine sN (pG rfl (dn (AWp.seq (AWp.seq (rN (pS rfl (al (((x1.Kids.length : Nat) : Int)) rfl (pI rfl (dn (AWp.block ?_))))))))))
  obtain ⟨I582, x583, hz584, hr585⟩ := h
  refine AWp.loop (I := fun p : ByteArray × Int => mkSt [(3, .dat (.sl 26 9 (List.map GTree.enc x1.Kids))), (4, .dat (.v (.string p.1))), (17, .dat (.v (.int .i64 ((x1.Kids.length : Nat) : Int)))), (18, .dat (.v (.int .i64 p.2)))] []) (Inv := fun p => I582 p.1 p.2) (μ := fun p => x583 p.1 p.2) (x0 := ⟨(ByteArray.mk #[]), (0 : Int)⟩) hz584 sl (fun p hp => ?_)
  obtain ⟨x554, x555⟩ := p
  have h := hr585 x554 x555 hp
  refine sN (pW rfl (dn (AWp.seq (cB h (fun h => ?_) (fun h => ?_)))))
  ·refine AWp.skip (AWp.seq (AWp.block (AWp.seq (rN (pI rfl (pI rfl (dn (AWp.seq (AWp.seq (rN (pI rfl (pB rfl (dn ?_)))))))))))))
   obtain ⟨J580, h, hk581⟩ := h
   refine AWp.cutK (I := fun p : ByteArray => mkSt [(3, .dat (.sl 26 9 (List.map GTree.enc x1.Kids))), (4, .dat (.v (.string p))), (5, .dat (.v (.int .i64 x555))), (17, .dat (.v (.int .i64 ((x1.Kids.length : Nat) : Int)))), (18, .dat (.v (.int .i64 x555)))] []) (Inv := fun p : ByteArray => J580 p) ?_ (fun p hp => ?_)
   ·refine cB h (fun h => ?_) (fun h => ?_)
    ·refine rN (pG rfl (kc h rfl rfl rfl rfl fun x572 h => ?_))
     refine pG rfl (dn ?_)
     exact ⟨x572, h, sl⟩
    refine AWp.skip ?_
    exact ⟨x554, h, sl⟩
   replace h := hk581 p hp
   revert h; clear hp; generalize p = x570; intro h
   refine rN (pG rfl (pS rfl (pI rfl (kI h GTree.get rfl rfl rfl rfl rfl rfl rfl fun x574 h => ?_))))
   refine pT rfl (kC h rfl ⟨.inl rfl, trivial⟩ rfl fun x576 h => ?_)
   refine kc h rfl rfl rfl rfl fun x578 h => pG rfl ?_
   refine dn (rN ?_)
   obtain ⟨x579, ex579, h⟩ := h.get
   refine ai ex579 rfl (pI rfl (dn ?_))
   exact ⟨⟨x578, x579⟩, h.1, h.2, sl⟩
  refine AWp.exit ?_
  refine sN (pG rfl (pG rfl (dn (AWp.ret ?_))))
  subst h
  exact ⟨_, rfl, rfl⟩
 refine sN (pB rfl (pB rfl (dn (cB h (fun h => ?_) (fun h => ?_)))))
 ·refine sD (pP rfl (pG rfl (kc h rfl rfl rfl rfl fun x586 h => ?_)))
  refine pS rfl (kC h rfl ⟨.inl rfl, .inl rfl, trivial⟩ rfl fun x587 h => ?_)
  refine kc h rfl rfl rfl rfl fun x589 h => kc h rfl rfl rfl rfl fun x590 h => pG rfl ?_
  subst h; exact dn (AWp.ret ⟨_, rfl, rfl⟩)
 refine sN (pB rfl (pB rfl (dn (cB h (fun h => ?_) (fun h => ?_)))))
 ·refine sN (pG rfl (dn (AWp.seq (AWp.seq (rN (pP rfl (pI rfl (pB rfl (dn ?_)))))))))
  obtain ⟨J599, h, hk600⟩ := h
  refine AWp.cutK (I := fun p : ByteArray => mkSt [(1, .pt 1 [] 0), (3, .dat (.sl 26 9 (List.map GTree.enc x1.Kids))), (6, .dat (.v (.string p)))] [(1, .box 26 9 (.dat (GTree.out x1)))]) (Inv := fun p : ByteArray => J599 p) ?_ (fun p hp => ?_)
  ·refine cB h (fun h => ?_) (fun h => ?_)
   ·refine rN (pG rfl (dn ?_))
    exact ⟨(ByteArray.mk #[99, 111, 110, 110, 101, 99, 116, 111, 114, 32]), h, sl⟩
   refine AWp.skip ?_
   exact ⟨(ByteArray.mk #[109, 111, 100, 101, 108, 32]), h, sl⟩
  replace h := hk600 p hp
  revert h; clear hp; generalize p = x591; intro h
  refine sD (pG rfl (pP rfl (pG rfl (kc h rfl rfl rfl rfl fun x593 h => ?_))))
  refine kc h rfl rfl rfl rfl fun x594 h => pS rfl ?_
  refine kC h rfl ⟨.inl rfl, trivial⟩ rfl fun x595 h => kc h rfl rfl rfl rfl fun x597 h => kc h rfl rfl rfl rfl fun x598 h => pG rfl ?_
  subst h; exact dn (AWp.ret ⟨_, rfl, rfl⟩)
 refine sN (pB rfl (pB rfl (dn (cB h (fun h => ?_) (fun h => ?_)))))
 ·refine sD (pP rfl (pG rfl (kc h rfl rfl rfl rfl fun x601 h => ?_)))
  refine pS rfl (kI h GTree.get rfl rfl rfl rfl rfl rfl rfl fun x603 h => ?_)
  refine pT rfl (kC h rfl ⟨.inl rfl, trivial⟩ rfl fun x605 h => ?_)
  refine kc h rfl rfl rfl rfl fun x607 h => kc h rfl rfl rfl rfl fun x608 h => pS rfl ?_
  refine kI h GTree.get rfl rfl rfl rfl rfl rfl rfl fun x610 h => pT rfl ?_
  refine kC h rfl ⟨.inl rfl, trivial⟩ rfl fun x612 h => kc h rfl rfl rfl rfl fun x614 h => kc h rfl rfl rfl rfl fun x615 h => pG rfl ?_
  subst h; exact dn (AWp.ret ⟨_, rfl, rfl⟩)
 refine sN (pB rfl (pB rfl (dn (cB h (fun h => ?_) (fun h => ?_)))))
 ·refine sN (pG rfl (dn (AWp.seq (AWp.seq (rN (pP rfl (pB rfl (dn ?_))))))))
  obtain ⟨J629, h, hk630⟩ := h
  refine AWp.cutK (I := fun p : ByteArray => mkSt [(1, .pt 1 [] 0), (3, .dat (.sl 26 9 (List.map GTree.enc x1.Kids))), (7, .dat (.v (.string p)))] [(1, .box 26 9 (.dat (GTree.out x1)))]) (Inv := fun p : ByteArray => J629 p) ?_ (fun p hp => ?_)
  ·refine cB h (fun h => ?_) (fun h => ?_)
   ·refine rN (pG rfl (dn ?_))
    exact ⟨(ByteArray.mk #[102, 108, 111, 119, 32]), h, sl⟩
   refine AWp.skip ?_
   exact ⟨(ByteArray.mk #[118, 97, 114, 32]), h, sl⟩
  replace h := hk630 p hp
  revert h; clear hp; generalize p = x616; intro h
  refine sD (pG rfl (pP rfl (pG rfl (kc h rfl rfl rfl rfl fun x618 h => ?_))))
  refine pP rfl (pI rfl (kC h rfl ⟨.inl rfl, trivial⟩ rfl fun x619 h => ?_))
  refine kc h rfl rfl rfl rfl fun x621 h => pS rfl ?_
  refine kI h GTree.get rfl rfl rfl rfl rfl rfl rfl fun x623 h => pT rfl ?_
  refine kC h rfl ⟨.inl rfl, trivial⟩ rfl fun x625 h => kc h rfl rfl rfl rfl fun x627 h => kc h rfl rfl rfl rfl fun x628 h => pG rfl ?_
  subst h; exact dn (AWp.ret ⟨_, rfl, rfl⟩)
 refine sN (pB rfl (pB rfl (dn (cB h (fun h => ?_) (fun h => ?_)))))
 ·refine sN (pG rfl (dn (AWp.seq (AWp.seq (rN (pS rfl (al (((x1.Kids.length : Nat) : Int)) rfl (pI rfl (dn (AWp.block ?_))))))))))
  obtain ⟨I828, x829, hz830, hr831⟩ := h
  refine AWp.loop (I := fun p : ByteArray × Int => mkSt [(1, .pt 1 [] 0), (3, .dat (.sl 26 9 (List.map GTree.enc x1.Kids))), (8, .dat (.v (.string p.1))), (95, .dat (.v (.int .i64 ((x1.Kids.length : Nat) : Int)))), (96, .dat (.v (.int .i64 p.2)))] [(1, .box 26 9 (.dat (GTree.out x1)))]) (Inv := fun p => I828 p.1 p.2) (μ := fun p => x829 p.1 p.2) (x0 := ⟨(ByteArray.mk #[]), (0 : Int)⟩) hz830 sl (fun p hp => ?_)
  obtain ⟨x768, x769⟩ := p
  have h := hr831 x768 x769 hp
  refine sN (pW rfl (dn (AWp.seq (cB h (fun h => ?_) (fun h => ?_)))))
  ·refine AWp.skip (AWp.seq (AWp.block (AWp.seq (rN (pI rfl (pI rfl (dn (AWp.seq (AWp.seq (rN (pI rfl (pB rfl (dn ?_)))))))))))))
   obtain ⟨J810, h, hk811⟩ := h
   refine AWp.cutK (I := fun p : ByteArray => mkSt [(1, .pt 1 [] 0), (3, .dat (.sl 26 9 (List.map GTree.enc x1.Kids))), (8, .dat (.v (.string p))), (9, .dat (.v (.int .i64 x769))), (95, .dat (.v (.int .i64 ((x1.Kids.length : Nat) : Int)))), (96, .dat (.v (.int .i64 x769)))] [(1, .box 26 9 (.dat (GTree.out x1)))]) (Inv := fun p : ByteArray => J810 p) ?_ (fun p hp => ?_)
   ·refine cB h (fun h => ?_) (fun h => ?_)
    ·refine rN (pG rfl (kc h rfl rfl rfl rfl fun x794 h => ?_))
     refine pG rfl (dn ?_)
     exact ⟨x794, h, sl⟩
    refine AWp.skip ?_
    exact ⟨x768, h, sl⟩
   replace h := hk811 p hp
   revert h; clear hp; generalize p = x792; intro h
   refine rD (pG rfl (pS rfl (pI rfl (kI h GTree.get rfl rfl rfl rfl rfl rfl rfl fun x796 h => ?_))))
   refine pX rfl (pG rfl (kc h rfl rfl rfl rfl fun x798 h => ?_))
   refine kc h rfl rfl rfl rfl fun x799 h => pS rfl ?_
   refine pI rfl (kI h GTree.get rfl rfl rfl rfl rfl rfl rfl fun x801 h => ?_)
   refine pX rfl (pS rfl (kI h GTree.get rfl rfl rfl rfl rfl rfl rfl fun x804 h => ?_))
   refine pT rfl (kC h rfl ⟨.inl rfl, trivial⟩ rfl fun x806 h => ?_)
   refine kc h rfl rfl rfl rfl fun x808 h => pG rfl ?_
   refine dn (rN ?_)
   obtain ⟨x809, ex809, h⟩ := h.get
   refine ai ex809 rfl (pI rfl (dn ?_))
   exact ⟨⟨x808, x809⟩, h.1, h.2, sl⟩
  refine AWp.exit ?_
  refine AWp.seq (AWp.seq (rN (pG rfl (pB rfl (dn ?_)))))
  obtain ⟨J826, h, hk827⟩ := h
  refine AWp.cutK (I := fun p : ByteArray => mkSt [(1, .pt 1 [] 0), (8, .dat (.v (.string p)))] [(1, .box 26 9 (.dat (GTree.out x1)))]) (Inv := fun p : ByteArray => J826 p) ?_ (fun p hp => ?_)
  ·refine cB h (fun h => ?_) (fun h => ?_)
   ·refine rN (pG rfl (kc h rfl rfl rfl rfl fun x816 h => ?_))
    refine kc h rfl rfl rfl rfl fun x817 h => pG rfl ?_
    refine dn ?_
    exact ⟨x817, h, sl⟩
   refine AWp.skip ?_
   exact ⟨x768, h, sl⟩
  replace h := hk827 p hp
  revert h; clear hp; generalize p = x814; intro h
  refine sD (pP rfl (pG rfl (kc h rfl rfl rfl rfl fun x818 h => ?_)))
  refine pP rfl (pI rfl (kC h rfl ⟨.inl rfl, trivial⟩ rfl fun x819 h => ?_))
  refine kc h rfl rfl rfl rfl fun x821 h => kc h rfl rfl rfl rfl fun x822 h => pP rfl ?_
  refine pG rfl (kc h rfl rfl rfl rfl fun x823 h => ?_)
  refine pG rfl (kc h rfl rfl rfl rfl fun x824 h => ?_)
  refine kc h rfl rfl rfl rfl fun x825 h => pG rfl ?_
  subst h; exact dn (AWp.ret ⟨_, rfl, rfl⟩)
 refine sN (pB rfl (pB rfl (dn (cB h (fun h => ?_) (fun h => ?_)))))
 ·refine AWp.seq (AWp.seq (rD (pS rfl (kI h GTree.get rfl rfl rfl rfl rfl rfl rfl fun x833 h => ?_))))
  refine pT rfl (pS rfl (kI h GTree.get rfl rfl rfl rfl rfl rfl rfl fun x836 h => ?_))
  refine pT rfl (kC h rfl ⟨.inl rfl, .inl rfl, trivial⟩ rfl fun x838 h => ?_)
  refine dn (cB h (fun h => ?_) (fun h => ?_))
  ·refine sD (pS rfl (kI h GTree.get rfl rfl rfl rfl rfl rfl rfl fun x855 h => ?_))
   refine pT rfl (kC h rfl ⟨.inl rfl, trivial⟩ rfl fun x857 h => ?_)
   refine kc h rfl rfl rfl rfl fun x859 h => kc h rfl rfl rfl rfl fun x860 h => pS rfl ?_
   refine kI h GTree.get rfl rfl rfl rfl rfl rfl rfl fun x862 h => pT rfl ?_
   refine kC h rfl ⟨.inl rfl, trivial⟩ rfl fun x864 h => kc h rfl rfl rfl rfl fun x866 h => kc h rfl rfl rfl rfl fun x867 h => pG rfl ?_
   subst h; exact dn (AWp.ret ⟨_, rfl, rfl⟩)
  refine AWp.skip (AWp.seq (rD (pS rfl (kI h GTree.get rfl rfl rfl rfl rfl rfl rfl fun x869 h => ?_))))
  refine pT rfl (kC h rfl ⟨.inl rfl, trivial⟩ rfl fun x871 h => ?_)
  refine kc h rfl rfl rfl rfl fun x873 h => kc h rfl rfl rfl rfl fun x874 h => pS rfl ?_
  refine kI h GTree.get rfl rfl rfl rfl rfl rfl rfl fun x876 h => pT rfl ?_
  refine kC h rfl ⟨.inl rfl, trivial⟩ rfl fun x878 h => kc h rfl rfl rfl rfl fun x880 h => kc h rfl rfl rfl rfl fun x881 h => pS rfl ?_
  refine kI h GTree.get rfl rfl rfl rfl rfl rfl rfl fun x883 h => pT rfl ?_
  refine kC h rfl ⟨.inl rfl, trivial⟩ rfl fun x885 h => kc h rfl rfl rfl rfl fun x887 h => kc h rfl rfl rfl rfl fun x888 h => pG rfl ?_
  subst h; exact dn (AWp.ret ⟨_, rfl, rfl⟩)
 refine sN (pB rfl (pB rfl (dn (cB h (fun h => ?_) (fun h => ?_)))))
 ·refine sD (pS rfl (kI h GTree.get rfl rfl rfl rfl rfl rfl rfl fun x890 h => ?_))
  refine pT rfl (kC h rfl ⟨.inl rfl, trivial⟩ rfl fun x892 h => ?_)
  refine kc h rfl rfl rfl rfl fun x894 h => kc h rfl rfl rfl rfl fun x895 h => pS rfl ?_
  refine kI h GTree.get rfl rfl rfl rfl rfl rfl rfl fun x897 h => pT rfl ?_
  refine kC h rfl ⟨.inl rfl, trivial⟩ rfl fun x899 h => kc h rfl rfl rfl rfl fun x901 h => kc h rfl rfl rfl rfl fun x902 h => pG rfl ?_
  subst h; exact dn (AWp.ret ⟨_, rfl, rfl⟩)
 refine sN (pB rfl (pB rfl (dn (cB h (fun h => ?_) (fun h => ?_)))))
 ·refine sD (pS rfl (kI h GTree.get rfl rfl rfl rfl rfl rfl rfl fun x904 h => ?_))
  refine pT rfl (kC h rfl ⟨.inl rfl, trivial⟩ rfl fun x906 h => ?_)
  refine kc h rfl rfl rfl rfl fun x908 h => pS rfl ?_
  refine kI h GTree.get rfl rfl rfl rfl rfl rfl rfl fun x910 h => pT rfl ?_
  refine kC h rfl ⟨.inl rfl, trivial⟩ rfl fun x912 h => kc h rfl rfl rfl rfl fun x914 h => kc h rfl rfl rfl rfl fun x915 h => pG rfl ?_
  subst h; exact dn (AWp.ret ⟨_, rfl, rfl⟩)
 refine sN (pB rfl (pB rfl (dn (cB h (fun h => ?_) (fun h => ?_)))))
 ·refine sD (pP rfl (pG rfl (kc h rfl rfl rfl rfl fun x916 h => ?_)))
  refine kc h rfl rfl rfl rfl fun x917 h => pP rfl ?_
  refine pI rfl (kC h rfl ⟨.inl rfl, trivial⟩ rfl fun x918 h => ?_)
  refine kc h rfl rfl rfl rfl fun x920 h => kc h rfl rfl rfl rfl fun x921 h => pP rfl ?_
  refine pI rfl (kC h rfl ⟨.inl rfl, trivial⟩ rfl fun x922 h => ?_)
  refine kc h rfl rfl rfl rfl fun x924 h => kc h rfl rfl rfl rfl fun x925 h => pS rfl ?_
  refine kC h rfl ⟨.inl rfl, trivial⟩ rfl fun x926 h => kc h rfl rfl rfl rfl fun x928 h => kc h rfl rfl rfl rfl fun x929 h => pG rfl ?_
  subst h; exact dn (AWp.ret ⟨_, rfl, rfl⟩)
 refine sN (pB rfl (pB rfl (dn (cB h (fun h => ?_) (fun h => ?_)))))
 ·refine sN (pS rfl (kC h rfl ⟨.inl rfl, .inl rfl, trivial⟩ rfl fun x930 h => ?_))
  refine pG rfl (dn (AWp.ret ?_))
  subst h
  exact ⟨_, rfl, rfl⟩
 refine AWp.skip (AWp.seq (rN (pT rfl (kC h rfl ⟨.inl rfl, trivial⟩ rfl fun x932 h => ?_))))
 refine pG rfl (dn (AWp.ret ?_))
 subst h
 exact ⟨_, rfl, rfl⟩
def W_parse_join (l1 : List GTree) (sep2 : ByteArray) (one3 : DV) (Q : ByteArray -> Prop) : Prop :=
 Loop2 ([] : List ByteArray) (0 : Int) (fun (s55 : List ByteArray) (x56 : Int) next57 =>
 Br (decide (x56 < ((l1.length : Nat) : Int))) (
 At l1 x56 fun x65 =>
 Call (fun x67 : ByteArray => FVal prog one3 [GTree.out x65] (.v (.string x67))) fun x67 =>
 App 16 s55 ([x67]) fun x69 =>
 Let (IntKind.i64.wrap (x56 + (1 : Int))) fun x70 =>
 next57 x69 x70) (
 Call (Ev_strings_Join s55 sep2) fun x71 =>
 Q x71))
theorem walk_parse_join {l1 : List GTree} {sep2 : ByteArray} {one3 : DV} {r : ByteArray} (h : W_parse_join l1 sep2 one3 (fun r' => r' = r)) : Ev_parse_join l1 sep2 one3 r := by
 unfold W_parse_join at h
 refine intr (L := [(0, .dat (.sl 26 9 (List.map GTree.enc l1))), (1, .dat (.v (.string sep2))), (2, .dat (one3))]) Tryz.func15 Tryz.ntmps15 ?_
 refine sN (pG rfl (dn (AWp.seq (rN ?_))))
 refine AOps.nilown tabOk rfl rfl rfl rfl rfl rfl ?_
 refine dn (AWp.seq (AWp.seq (rN (pS rfl (al (((l1.length : Nat) : Int)) rfl (pI rfl (dn (AWp.block ?_))))))))
 obtain ⟨I73, x74, hz75, hr76⟩ := h
 refine AWp.loop (I := fun p : (List ByteArray) × Int => mkSt [(1, .dat (.v (.string sep2))), (2, .dat (one3)), (7, .oref 1007), (10, .dat (.sl 26 9 (List.map GTree.enc l1))), (11, .dat (.v (.int .i64 ((l1.length : Nat) : Int)))), (12, .dat (.v (.int .i64 p.2)))] [(1007, .row 9 1 (List.map eStr p.1))]) (Inv := fun p => I73 p.1 p.2) (μ := fun p => x74 p.1 p.2) (x0 := ⟨([] : List ByteArray), (0 : Int)⟩) hz75 (slf (fun i => (if Nat.beq i 1007 then 7 else i))) (fun p hp => ?_)
 obtain ⟨s55, x56⟩ := p
 have h := hr76 s55 x56 hp
 refine sN (pW rfl (dn (AWp.seq (cB h (fun h => ?_) (fun h => ?_)))))
 ·refine AWp.skip (AWp.seq (AWp.block (AWp.seq (rW (kI h GTree.get rfl rfl rfl rfl rfl rfl rfl fun x65 h => ?_)))))
  refine pT rfl (al0 ?_)
  refine st (v := .dat (.st _ _)) ?_
  refine dn (rW (pO rfl ?_))
  refine AOps.mv rfl rfl (.inl rfl) rfl ?_
  refine pT rfl ?_
  obtain ⟨x67, hc68, h⟩ := h
  refine AOps.callv hc68 rfl rfl rfl rfl ⟨.inl rfl, trivial⟩ ?_
  refine AOps.lit tabOk (ys := [.v (.string x67)]) rfl rfl rfl rfl rfl rfl ?_
  obtain ⟨h1, h2, x69, ex69, h⟩ := h.get
  refine AOps.append tabOk rfl rfl rfl rfl rfl rfl rfl rfl rfl rfl rfl (.inl ⟨_, rfl⟩) (app1 h1) (app2 h2) (app3 ex69) ?_
  refine pO rfl (dn (rN ?_))
  obtain ⟨x70, ex70, h⟩ := h.get
  refine ai ex70 rfl (pI rfl (dn ?_))
  exact ⟨⟨x69, x70⟩, h.1, h.2, (slf (fun i => (if Nat.beq i 1007 then 21 else i)))⟩
 refine AWp.exit ?_
 refine sN (pO rfl (pG rfl ?_))
 obtain ⟨x71, hc72, h⟩ := h
 refine ca (AFn.fresh rfl hc72) rfl ⟨.inr (.inr ⟨rfl, _, _, _, _, rfl, rfl, rfl⟩), .inl rfl, trivial⟩ rfl (pG rfl (dn (AWp.ret ?_)))
 subst h
 exact ⟨_, rfl, rfl⟩
def W_parse_text_1 (d1 : GTree) (Q : ByteArray -> Prop) : Prop :=
 Call (Ev_parse_text d1) fun x2 =>
 Cat (ByteArray.mk #[32, 61, 32]) x2 fun x4 =>
 Q x4
theorem walk_parse_text_1 {d1 : GTree} {r : ByteArray} (h : W_parse_text_1 d1 (fun r' => r' = r)) : Ev_parse_text_1 d1 r := by
 unfold W_parse_text_1 at h
 refine intr (L := [(0, .dat (GTree.out d1))]) Tryz.func16 Tryz.ntmps16 ?_
 refine sN (bx (v := .dat (.st _ _)) ?_)
 refine pG rfl (dn (AWp.seq (rN (pT rfl (kC h rfl ⟨.inl rfl, trivial⟩ rfl fun x2 h => ?_)))))
 refine kc h rfl rfl rfl rfl fun x4 h => pG rfl ?_
 subst h; exact dn (AWp.ret ⟨_, rfl, rfl⟩)
def W_parse_text_2 (i1 : GTree) (Q : ByteArray -> Prop) : Prop :=
 Call (Ev_parse_text i1) fun x2 =>
 Cat x2 (ByteArray.mk #[10]) fun x4 =>
 Q x4
theorem walk_parse_text_2 {i1 : GTree} {r : ByteArray} (h : W_parse_text_2 i1 (fun r' => r' = r)) : Ev_parse_text_2 i1 r := by
 unfold W_parse_text_2 at h
 refine intr (L := [(0, .dat (GTree.out i1))]) Tryz.func17 Tryz.ntmps17 ?_
 refine sN (bx (v := .dat (.st _ _)) ?_)
 refine pG rfl (dn (AWp.seq (rN (pT rfl (kC h rfl ⟨.inl rfl, trivial⟩ rfl fun x2 h => ?_)))))
 refine kc h rfl rfl rfl rfl fun x4 h => pG rfl ?_
 subst h; exact dn (AWp.ret ⟨_, rfl, rfl⟩)
def W_parse_array (n1 : Int) (Q : ByteArray -> Prop) : Prop :=
 Br (n1 == (0 : Int)) (Q (ByteArray.mk #[])) (
 Call (Ev_strconv_Itoa n1) fun x2 =>
 Cat (ByteArray.mk #[91]) x2 fun x4 =>
 Cat x4 (ByteArray.mk #[93]) fun x5 =>
 Q x5)
theorem walk_parse_array {n1 : Int} {r : ByteArray} (h : W_parse_array n1 (fun r' => r' = r)) : Ev_parse_array n1 r := by
 unfold W_parse_array at h
 refine intr (L := [(0, .dat (.v (.int .i64 n1)))]) Tryz.func18 Tryz.ntmps18 ?_
 refine sN (pG rfl (dn (AWp.seq (AWp.seq (rN (pI rfl (pB rfl (dn (cB h (fun h => ?_) (fun h => ?_))))))))))
 ·refine sN (pG rfl (dn (AWp.ret ?_)))
  subst h
  exact ⟨_, rfl, rfl⟩
 refine AWp.skip (AWp.seq (rN (pI rfl (kC h rfl ⟨.inl rfl, trivial⟩ rfl fun x2 h => ?_))))
 refine kc h rfl rfl rfl rfl fun x4 h => kc h rfl rfl rfl rfl fun x5 h => pG rfl ?_
 subst h; exact dn (AWp.ret ⟨_, rfl, rfl⟩)
def W_parse_equal (a1 : GTree) (b2 : GTree) (Q : Bool -> Prop) : Prop :=
 Call (Ev_parse_same a1 b2) fun x7 =>
 Br x7 (
 Call (Ev_slices_EqualFunc_api_Tree a1.Kids b2.Kids Fn_parse_equal) fun x9 =>
 Q x9) (
 Q false)
theorem walk_parse_equal {a1 : GTree} {b2 : GTree} {r : Bool} (h : W_parse_equal a1 b2 (fun r' => r' = r)) : Ev_parse_equal a1 b2 r := by
 unfold W_parse_equal at h
 refine intr (L := [(0, .dat (GTree.out a1)), (1, .dat (GTree.out b2))]) Tryz.func19 Tryz.ntmps19 ?_
 refine sN (bx (v := .dat (.st _ _)) ?_)
 refine bx (v := .dat (.st _ _)) ?_
 refine pB rfl (dn (AWp.seq (rN (pT rfl (pT rfl (kC h rfl ⟨.inl rfl, .inl rfl, trivial⟩ rfl fun x7 h => ?_))))))
 refine pB rfl (sB 8 h (fun h => ?_) (fun h => ?_))
 ·refine pP rfl (pS rfl (pP rfl (pS rfl (kC h rfl ⟨.inl rfl, .inl rfl, .inl rfl, trivial⟩ rfl fun x9 h => ?_))))
  refine pB rfl (pB rfl (dn (AWp.ret ?_)))
  subst h
  exact ⟨_, rfl, rfl⟩
 refine fo 5 rfl (pB rfl (pB rfl (dn (AWp.ret ?_))))
 subst h
 exact ⟨_, rfl, rfl⟩
def W_strconv_Itoa (i1 : Int) (Q : ByteArray -> Prop) : Prop :=
 Call (Ev_internal_strconv_Itoa i1) fun x2 =>
 Q x2
theorem walk_strconv_Itoa {i1 : Int} {r : ByteArray} (h : W_strconv_Itoa i1 (fun r' => r' = r)) : Ev_strconv_Itoa i1 r := by
 unfold W_strconv_Itoa at h
 refine intr (L := [(0, .dat (.v (.int .i64 i1)))]) Tryz.func20 Tryz.ntmps20 ?_
 refine sN (pG rfl (dn (AWp.seq (rN (pI rfl (kC h rfl ⟨.inl rfl, trivial⟩ rfl fun x2 h => ?_))))))
 refine pG rfl (dn (AWp.ret ?_))
 subst h
 exact ⟨_, rfl, rfl⟩
def W_parse_text_3 (i1 : GTree) (Q : ByteArray -> Prop) : Prop :=
 Call (Ev_parse_text i1) fun x2 =>
 Cat x2 (ByteArray.mk #[10]) fun x4 =>
 Q x4
theorem walk_parse_text_3 {i1 : GTree} {r : ByteArray} (h : W_parse_text_3 i1 (fun r' => r' = r)) : Ev_parse_text_3 i1 r := by
 unfold W_parse_text_3 at h
 refine intr (L := [(0, .dat (GTree.out i1))]) Tryz.func21 Tryz.ntmps21 ?_
 refine sN (bx (v := .dat (.st _ _)) ?_)
 refine pG rfl (dn (AWp.seq (rN (pT rfl (kC h rfl ⟨.inl rfl, trivial⟩ rfl fun x2 h => ?_)))))
 refine kc h rfl rfl rfl rfl fun x4 h => pG rfl ?_
 subst h; exact dn (AWp.ret ⟨_, rfl, rfl⟩)
def W_parse_text_4 (d1 : GTree) (Q : ByteArray -> Prop) : Prop :=
 Call (Ev_parse_text d1) fun x2 =>
 Cat (ByteArray.mk #[58, 32]) x2 fun x4 =>
 Q x4
theorem walk_parse_text_4 {d1 : GTree} {r : ByteArray} (h : W_parse_text_4 d1 (fun r' => r' = r)) : Ev_parse_text_4 d1 r := by
 unfold W_parse_text_4 at h
 refine intr (L := [(0, .dat (GTree.out d1))]) Tryz.func22 Tryz.ntmps22 ?_
 refine sN (bx (v := .dat (.st _ _)) ?_)
 refine pG rfl (dn (AWp.seq (rN (pT rfl (kC h rfl ⟨.inl rfl, trivial⟩ rfl fun x2 h => ?_)))))
 refine kc h rfl rfl rfl rfl fun x4 h => pG rfl ?_
 subst h; exact dn (AWp.ret ⟨_, rfl, rfl⟩)
def W_parse_exprText (x1 : GTree) (Q : ByteArray -> Prop) : Prop :=
 Br (x1.Kind == (1 : Int)) (
 Call (Ev_parse_digits x1.Num) fun x92 =>
 Q x92) (
 Br (x1.Kind == (2 : Int)) (
 Call (Ev_parse_join x1.Kids (ByteArray.mk #[46]) Fn_parse_exprText) fun x94 =>
 Q x94) (
 Br (x1.Kind == (3 : Int)) (
 Call (Ev_parse_join x1.Kids (ByteArray.mk #[]) Fn_parse_exprText_2) fun x96 =>
 Cat x1.Name x96 fun x98 =>
 Q x98) (
 Br (x1.Kind == (4 : Int)) (
 At x1.Kids (0 : Int) fun x100 =>
 Call (Ev_parse_exprText x100) fun x102 =>
 Cat (ByteArray.mk #[100, 101, 114, 40]) x102 fun x104 =>
 Cat x104 (ByteArray.mk #[41]) fun x105 =>
 Q x105) (
 Br (x1.Kind == (5 : Int)) (Q (ByteArray.mk #[116, 105, 109, 101])) (
 Br (x1.Kind == (6 : Int)) (
 Call (Ev_parse_functions) fun x106 =>
 At x106 x1.N fun x109 =>
 Cat x109 (ByteArray.mk #[40]) fun x111 =>
 At x1.Kids (0 : Int) fun x113 =>
 Call (Ev_parse_exprText x113) fun x115 =>
 Cat x111 x115 fun x117 =>
 Cat x117 (ByteArray.mk #[41]) fun x118 =>
 Q x118) (
 Br (x1.Kind == (7 : Int)) (
 At x1.Kids (0 : Int) fun x120 =>
 Call (Ev_parse_operand x120) fun x122 =>
 Cat (ByteArray.mk #[45]) x122 fun x124 =>
 Q x124) (
 Br (x1.Kind == (8 : Int)) (
 Call (fun x125 : ByteArray => FVal prog (Fn_parse_exprText_1 x1.Kids) [.v (.string (ByteArray.mk #[32, 43, 32]))] (.v (.string x125))) fun x125 =>
 Q x125) (
 Br (x1.Kind == (9 : Int)) (
 Call (fun x127 : ByteArray => FVal prog (Fn_parse_exprText_1 x1.Kids) [.v (.string (ByteArray.mk #[32, 45, 32]))] (.v (.string x127))) fun x127 =>
 Q x127) (
 Join1 (fun j130 =>
 Br (x1.Kind == (10 : Int)) (j130 (x1.Kind == (10 : Int))) (
 j130 (x1.Kind == (22 : Int)))
 ) (fun (x129 : Bool) =>
 Br x129 (
 Call (fun x131 : ByteArray => FVal prog (Fn_parse_exprText_1 x1.Kids) [.v (.string (ByteArray.mk #[32, 42, 32]))] (.v (.string x131))) fun x131 =>
 Q x131) (
 Join1 (fun j134 =>
 Br (x1.Kind == (11 : Int)) (j134 (x1.Kind == (11 : Int))) (
 j134 (x1.Kind == (23 : Int)))
 ) (fun (x133 : Bool) =>
 Br x133 (
 Call (fun x135 : ByteArray => FVal prog (Fn_parse_exprText_1 x1.Kids) [.v (.string (ByteArray.mk #[32, 47, 32]))] (.v (.string x135))) fun x135 =>
 Q x135) (
 Br (x1.Kind == (12 : Int)) (
 At x1.Kids (0 : Int) fun x138 =>
 Call (Ev_parse_operand x138) fun x140 =>
 Cat x140 (ByteArray.mk #[94]) fun x142 =>
 Call (Ev_strconv_Itoa x1.N) fun x143 =>
 Cat x142 x143 fun x145 =>
 Q x145) (
 Br (x1.Kind == (21 : Int)) (Q x1.Name) (
 Br (x1.Kind == (24 : Int)) (
 Br (x1.Num.D == (1 : Int)) (
 At x1.Kids (0 : Int) fun x156 =>
 Call (Ev_parse_operand x156) fun x158 =>
 Cat x158 (ByteArray.mk #[94]) fun x160 =>
 Call (Ev_strconv_Itoa x1.Num.N) fun x161 =>
 Cat x160 x161 fun x163 =>
 Q x163) (
 At x1.Kids (0 : Int) fun x165 =>
 Call (Ev_parse_operand x165) fun x167 =>
 Cat x167 (ByteArray.mk #[94, 40]) fun x169 =>
 Call (Ev_strconv_Itoa x1.Num.N) fun x170 =>
 Cat x169 x170 fun x172 =>
 Cat x172 (ByteArray.mk #[32, 47, 32]) fun x173 =>
 Call (Ev_strconv_Itoa x1.Num.D) fun x174 =>
 Cat x173 x174 fun x176 =>
 Cat x176 (ByteArray.mk #[41]) fun x177 =>
 Q x177)) (
 Q (ByteArray.mk #[49])))))))))))))))))
theorem walk_parse_exprText {x1 : GTree} {r : ByteArray} (h : W_parse_exprText x1 (fun r' => r' = r)) : Ev_parse_exprText x1 r := by
 unfold W_parse_exprText at h
 refine intr (L := [(0, .dat (GTree.out x1))]) Tryz.func23 Tryz.ntmps23 ?_
 refine sN (bx (v := .dat (.st _ _)) ?_)
 refine pG rfl (dn (AWp.seq (rW (pP rfl (pS rfl (al0 ?_))))))
 refine st (v := .dat (.sl _ _ _)) ?_
 refine dn (AWp.seq ?_)
 refine AWp.freezebox 3 3 rfl rfl ?_
 refine rN ?_
 refine AOps.mkfn (ds := [.pd (.sl 26 9 (List.map GTree.enc x1.Kids))]) rfl rfl rfl ⟨.inr ⟨_, rfl, rfl⟩, trivial⟩ ?_
 refine AOps.mv rfl rfl (.inr rfl) rfl ?_
 refine dn (AWp.seq (AWp.seq (rN (pP rfl (pI rfl (dn (AWp.block (AWp.seq (rN (pB rfl (pB rfl (dn (cB h (fun h => ?_) (fun h => ?_))))))))))))))
 ·refine sN (pP rfl (pT rfl (kC h rfl ⟨.inl rfl, trivial⟩ rfl fun x92 h => ?_)))
  refine pG rfl (dn (AWp.ret ?_))
  subst h
  exact ⟨_, rfl, rfl⟩
 refine sN (pB rfl (pB rfl (dn (cB h (fun h => ?_) (fun h => ?_)))))
 ·refine sN (pS rfl (kC h rfl ⟨.inl rfl, .inl rfl, .inl rfl, trivial⟩ rfl fun x94 h => ?_))
  refine pG rfl (dn (AWp.ret ?_))
  subst h
  exact ⟨_, rfl, rfl⟩
 refine sN (pB rfl (pB rfl (dn (cB h (fun h => ?_) (fun h => ?_)))))
 ·refine sD (pP rfl (pG rfl (pS rfl (kC h rfl ⟨.inl rfl, .inl rfl, .inl rfl, trivial⟩ rfl fun x96 h => ?_))))
  refine kc h rfl rfl rfl rfl fun x98 h => pG rfl ?_
  subst h; exact dn (AWp.ret ⟨_, rfl, rfl⟩)
 refine sN (pB rfl (pB rfl (dn (cB h (fun h => ?_) (fun h => ?_)))))
 ·refine sN (pS rfl (kI h GTree.get rfl rfl rfl rfl rfl rfl rfl fun x100 h => ?_))
  refine pT rfl (kC h rfl ⟨.inl rfl, trivial⟩ rfl fun x102 h => ?_)
  refine kc h rfl rfl rfl rfl fun x104 h => kc h rfl rfl rfl rfl fun x105 h => pG rfl ?_
  subst h; exact dn (AWp.ret ⟨_, rfl, rfl⟩)
 refine sN (pB rfl (pB rfl (dn (cB h (fun h => ?_) (fun h => ?_)))))
 ·refine sN (pG rfl (dn (AWp.ret ?_)))
  subst h
  exact ⟨_, rfl, rfl⟩
 refine sN (pB rfl (pB rfl (dn (cB h (fun h => ?_) (fun h => ?_)))))
 ·refine sD (kC h rfl trivial rfl fun x106 h => ?_)
  refine pP rfl (pI rfl (kI h (map_get (e := eStr)) rfl rfl rfl rfl rfl rfl rfl fun x109 h => ?_))
  refine pG rfl (kc h rfl rfl rfl rfl fun x111 h => ?_)
  refine pS rfl (kI h GTree.get rfl rfl rfl rfl rfl rfl rfl fun x113 h => ?_)
  refine pT rfl (kC h rfl ⟨.inl rfl, trivial⟩ rfl fun x115 h => ?_)
  refine kc h rfl rfl rfl rfl fun x117 h => kc h rfl rfl rfl rfl fun x118 h => pG rfl ?_
  subst h; exact dn (AWp.ret ⟨_, rfl, rfl⟩)
 refine sN (pB rfl (pB rfl (dn (cB h (fun h => ?_) (fun h => ?_)))))
 ·refine sN (pS rfl (kI h GTree.get rfl rfl rfl rfl rfl rfl rfl fun x120 h => ?_))
  refine pT rfl (kC h rfl ⟨.inl rfl, trivial⟩ rfl fun x122 h => ?_)
  refine kc h rfl rfl rfl rfl fun x124 h => pG rfl ?_
  subst h; exact dn (AWp.ret ⟨_, rfl, rfl⟩)
 refine sN (pB rfl (pB rfl (dn (cB h (fun h => ?_) (fun h => ?_)))))
 ·refine sN ?_
  refine AOps.mv rfl rfl (.inl rfl) rfl ?_
  obtain ⟨x125, hc126, h⟩ := h
  refine AOps.callv hc126 rfl rfl rfl rfl ⟨.inl rfl, trivial⟩ ?_
  refine pG rfl (dn (AWp.ret ?_))
  subst h
  exact ⟨_, rfl, rfl⟩
 refine sN (pB rfl (pB rfl (dn (cB h (fun h => ?_) (fun h => ?_)))))
 ·refine sN ?_
  refine AOps.mv rfl rfl (.inl rfl) rfl ?_
  obtain ⟨x127, hc128, h⟩ := h
  refine AOps.callv hc128 rfl rfl rfl rfl ⟨.inl rfl, trivial⟩ ?_
  refine pG rfl (dn (AWp.ret ?_))
  subst h
  exact ⟨_, rfl, rfl⟩
 refine AWp.seq (AWp.seq (rN (pB rfl (pB rfl (dn ?_)))))
 obtain ⟨J180, h, hk181⟩ := h
 refine AWp.cutK (I := fun p : Bool => mkSt [(1, .pt 1 [] 0), (3, .sp (.sl 26 9 (List.map GTree.enc x1.Kids))), (4, .dat ((Fn_parse_exprText_1 x1.Kids))), (9, .dat (.v (.int .i64 x1.Kind))), (65, .dat (.v (.bool p)))] [(1, .box 26 9 (.dat (GTree.out x1)))]) (Inv := fun p : Bool => J180 p) ?_ (fun p hp => ?_)
 ·refine cB h (fun h => ?_) (fun h => ?_)
  ·refine AWp.skip ?_
   exact ⟨(x1.Kind == (10 : Int)), h, sl⟩
  refine rN (pB rfl (pB rfl (dn ?_)))
  exact ⟨(x1.Kind == (22 : Int)), h, sl⟩
 replace h := hk181 p hp
 revert h; clear hp; generalize p = x129; intro h
 refine cB h (fun h => ?_) (fun h => ?_)
 ·refine sN ?_
  refine AOps.mv rfl rfl (.inl rfl) rfl ?_
  obtain ⟨x131, hc132, h⟩ := h
  refine AOps.callv hc132 rfl rfl rfl rfl ⟨.inl rfl, trivial⟩ ?_
  refine pG rfl (dn (AWp.ret ?_))
  subst h
  exact ⟨_, rfl, rfl⟩
 refine AWp.seq (AWp.seq (rN (pB rfl (pB rfl (dn ?_)))))
 obtain ⟨J178, h, hk179⟩ := h
 refine AWp.cutK (I := fun p : Bool => mkSt [(1, .pt 1 [] 0), (3, .sp (.sl 26 9 (List.map GTree.enc x1.Kids))), (4, .dat ((Fn_parse_exprText_1 x1.Kids))), (9, .dat (.v (.int .i64 x1.Kind))), (70, .dat (.v (.bool p)))] [(1, .box 26 9 (.dat (GTree.out x1)))]) (Inv := fun p : Bool => J178 p) ?_ (fun p hp => ?_)
 ·refine cB h (fun h => ?_) (fun h => ?_)
  ·refine AWp.skip ?_
   exact ⟨(x1.Kind == (11 : Int)), h, sl⟩
  refine rN (pB rfl (pB rfl (dn ?_)))
  exact ⟨(x1.Kind == (23 : Int)), h, sl⟩
 replace h := hk179 p hp
 revert h; clear hp; generalize p = x133; intro h
 refine cB h (fun h => ?_) (fun h => ?_)
 ·refine sN ?_
  refine AOps.mv rfl rfl (.inl rfl) rfl ?_
  obtain ⟨x135, hc136, h⟩ := h
  refine AOps.callv hc136 rfl rfl rfl rfl ⟨.inl rfl, trivial⟩ ?_
  refine pG rfl (dn (AWp.ret ?_))
  subst h
  exact ⟨_, rfl, rfl⟩
 refine sN (pB rfl (pB rfl (dn (cB h (fun h => ?_) (fun h => ?_)))))
 ·refine sD (pS rfl (kI h GTree.get rfl rfl rfl rfl rfl rfl rfl fun x138 h => ?_))
  refine pT rfl (kC h rfl ⟨.inl rfl, trivial⟩ rfl fun x140 h => ?_)
  refine kc h rfl rfl rfl rfl fun x142 h => pP rfl ?_
  refine pI rfl (kC h rfl ⟨.inl rfl, trivial⟩ rfl fun x143 h => ?_)
  refine kc h rfl rfl rfl rfl fun x145 h => pG rfl ?_
  subst h; exact dn (AWp.ret ⟨_, rfl, rfl⟩)
 refine sN (pB rfl (pB rfl (dn (cB h (fun h => ?_) (fun h => ?_)))))
 ·refine sN (pP rfl (pG rfl (pG rfl (dn (AWp.ret ?_)))))
  subst h
  exact ⟨_, rfl, rfl⟩
 refine sN (pB rfl (pB rfl (dn (cB h (fun h => ?_) (fun h => ?_)))))
 ·refine AWp.seq (AWp.seq (rN (pP rfl (pP rfl (pI rfl (pB rfl (dn (cB h (fun h => ?_) (fun h => ?_)))))))))
  ·refine sD (pS rfl (kI h GTree.get rfl rfl rfl rfl rfl rfl rfl fun x156 h => ?_))
   refine pT rfl (kC h rfl ⟨.inl rfl, trivial⟩ rfl fun x158 h => ?_)
   refine kc h rfl rfl rfl rfl fun x160 h => pP rfl ?_
   refine pP rfl (pI rfl (kC h rfl ⟨.inl rfl, trivial⟩ rfl fun x161 h => ?_))
   refine kc h rfl rfl rfl rfl fun x163 h => pG rfl ?_
   subst h; exact dn (AWp.ret ⟨_, rfl, rfl⟩)
  refine AWp.skip (AWp.seq (rD (pS rfl (kI h GTree.get rfl rfl rfl rfl rfl rfl rfl fun x165 h => ?_))))
  refine pT rfl (kC h rfl ⟨.inl rfl, trivial⟩ rfl fun x167 h => ?_)
  refine kc h rfl rfl rfl rfl fun x169 h => pP rfl ?_
  refine pP rfl (pI rfl (kC h rfl ⟨.inl rfl, trivial⟩ rfl fun x170 h => ?_))
  refine kc h rfl rfl rfl rfl fun x172 h => kc h rfl rfl rfl rfl fun x173 h => pP rfl ?_
  refine pP rfl (pI rfl (kC h rfl ⟨.inl rfl, trivial⟩ rfl fun x174 h => ?_))
  refine kc h rfl rfl rfl rfl fun x176 h => kc h rfl rfl rfl rfl fun x177 h => pG rfl ?_
  subst h; exact dn (AWp.ret ⟨_, rfl, rfl⟩)
 refine AWp.skip (AWp.seq (rN (pG rfl (dn (AWp.ret ?_)))))
 subst h
 exact ⟨_, rfl, rfl⟩
def W_ref13_opt (l1 : List GTree) (ahead2 : ByteArray) (Q : ByteArray -> Prop) : Prop :=
 Br (((l1.length : Nat) : Int) == (0 : Int)) (Q (ByteArray.mk #[])) (
 At l1 (0 : Int) fun x5 =>
 Call (Ev_ref13_Text x5) fun x7 =>
 Cat ahead2 x7 fun x9 =>
 Q x9)
theorem walk_ref13_opt {l1 : List GTree} {ahead2 : ByteArray} {r : ByteArray} (h : W_ref13_opt l1 ahead2 (fun r' => r' = r)) : Ev_ref13_opt l1 ahead2 r := by
 unfold W_ref13_opt at h
 refine intr (L := [(0, .dat (.sl 26 9 (List.map GTree.enc l1))), (1, .dat (.v (.string ahead2)))]) Tryz.func30 Tryz.ntmps30 ?_
 refine sN (pG rfl (dn (AWp.seq (AWp.seq (rN (pS rfl (al (((l1.length : Nat) : Int)) rfl (pB rfl (dn (cB h (fun h => ?_) (fun h => ?_)))))))))))
 ·refine sN (pG rfl (dn (AWp.ret ?_)))
  subst h
  exact ⟨_, rfl, rfl⟩
 refine AWp.skip (AWp.seq (rN (pG rfl (pS rfl (kI h GTree.get rfl rfl rfl rfl rfl rfl rfl fun x5 h => ?_)))))
 refine pT rfl (kC h rfl ⟨.inl rfl, trivial⟩ rfl fun x7 h => ?_)
 refine kc h rfl rfl rfl rfl fun x9 h => pG rfl ?_
 subst h; exact dn (AWp.ret ⟨_, rfl, rfl⟩)
def W_ref13_lines (l1 : List GTree) (Q : ByteArray -> Prop) : Prop :=
 Loop2 (ByteArray.mk #[]) (0 : Int) (fun (s59 : ByteArray) (x60 : Int) next61 =>
 Br (decide (x60 < ((l1.length : Nat) : Int))) (
 At l1 x60 fun x70 =>
 Call (Ev_ref13_Text x70) fun x72 =>
 Cat s59 x72 fun x74 =>
 Cat x74 (ByteArray.mk #[10]) fun x75 =>
 Let (IntKind.i64.wrap (x60 + (1 : Int))) fun x76 =>
 next61 x75 x76) (
 Q s59))
theorem walk_ref13_lines {l1 : List GTree} {r : ByteArray} (h : W_ref13_lines l1 (fun r' => r' = r)) : Ev_ref13_lines l1 r := by
 unfold W_ref13_lines at h
 refine intr (L := [(0, .dat (.sl 26 9 (List.map GTree.enc l1)))]) Tryz.func31 Tryz.ntmps31 ?_
 refine sN (pG rfl (dn (AWp.seq (rN (pG rfl (dn (AWp.seq (AWp.seq (rN (pS rfl (al (((l1.length : Nat) : Int)) rfl (pI rfl (dn (AWp.block ?_))))))))))))))
 obtain ⟨I77, x78, hz79, hr80⟩ := h
 refine AWp.loop (I := fun p : ByteArray × Int => mkSt [(3, .dat (.v (.string p.1))), (6, .dat (.sl 26 9 (List.map GTree.enc l1))), (7, .dat (.v (.int .i64 ((l1.length : Nat) : Int)))), (8, .dat (.v (.int .i64 p.2)))] []) (Inv := fun p => I77 p.1 p.2) (μ := fun p => x78 p.1 p.2) (x0 := ⟨(ByteArray.mk #[]), (0 : Int)⟩) hz79 sl (fun p hp => ?_)
 obtain ⟨s59, x60⟩ := p
 have h := hr80 s59 x60 hp
 refine sN (pW rfl (dn (AWp.seq (cB h (fun h => ?_) (fun h => ?_)))))
 ·refine AWp.skip (AWp.seq (AWp.block (AWp.seq (rW (kI h GTree.get rfl rfl rfl rfl rfl rfl rfl fun x70 h => ?_)))))
  refine pT rfl (al0 ?_)
  refine st (v := .dat (.st _ _)) ?_
  refine dn (rN (pG rfl (pT rfl (kC h rfl ⟨.inl rfl, trivial⟩ rfl fun x72 h => ?_))))
  refine kc h rfl rfl rfl rfl fun x74 h => kc h rfl rfl rfl rfl fun x75 h => pG rfl ?_
  refine dn (rN ?_)
  obtain ⟨x76, ex76, h⟩ := h.get
  refine ai ex76 rfl (pI rfl (dn ?_))
  exact ⟨⟨x75, x76⟩, h.1, h.2, sl⟩
 refine AWp.exit ?_
 refine sN (pG rfl (pG rfl (dn (AWp.ret ?_))))
 subst h
 exact ⟨_, rfl, rfl⟩
def W_ref13_size (n1 : Int) (Q : ByteArray -> Prop) : Prop :=
 Br (n1 == (0 : Int)) (Q (ByteArray.mk #[])) (
 Call (Ev_ref13_num n1) fun x2 =>
 Cat (ByteArray.mk #[91]) x2 fun x4 =>
 Cat x4 (ByteArray.mk #[93]) fun x5 =>
 Q x5)
theorem walk_ref13_size {n1 : Int} {r : ByteArray} (h : W_ref13_size n1 (fun r' => r' = r)) : Ev_ref13_size n1 r := by
 unfold W_ref13_size at h
 refine intr (L := [(0, .dat (.v (.int .i64 n1)))]) Tryz.func32 Tryz.ntmps32 ?_
 refine sN (pG rfl (dn (AWp.seq (AWp.seq (rN (pI rfl (pB rfl (dn (cB h (fun h => ?_) (fun h => ?_))))))))))
 ·refine sN (pG rfl (dn (AWp.ret ?_)))
  subst h
  exact ⟨_, rfl, rfl⟩
 refine AWp.skip (AWp.seq (rN (pI rfl (kC h rfl ⟨.inl rfl, trivial⟩ rfl fun x2 h => ?_))))
 refine kc h rfl rfl rfl rfl fun x4 h => kc h rfl rfl rfl rfl fun x5 h => pG rfl ?_
 subst h; exact dn (AWp.ret ⟨_, rfl, rfl⟩)
def W_ref13_Like (x1 : GTree) (x2 : GTree) (Q : Bool -> Prop) : Prop :=
 Br (x1.Kind != x2.Kind) (Q false) (
 Br (!(x1.Name.toList == x2.Name.toList)) (Q false) (
 Br (!(x1.Alias.toList == x2.Alias.toList)) (Q false) (
 Br (x1.N != x2.N) (Q false) (
 Br (x1.M != x2.M) (Q false) (
 Br (x1.Flag != x2.Flag) (Q false) (
 Br (!(GRat.beq x1.Num x2.Num)) (Q false) (
 Br (((x1.Kids.length : Nat) : Int) != ((x2.Kids.length : Nat) : Int)) (Q false) (
 Loop1 (0 : Int) (fun (x71 : Int) next72 =>
 Br (decide (x71 < ((x1.Kids.length : Nat) : Int))) (
 At x1.Kids x71 fun x82 =>
 At x2.Kids x71 fun x85 =>
 Call (Ev_ref13_Like x82 x85) fun x87 =>
 Br (!x87) (Q false) (
 Let (IntKind.i64.wrap (x71 + (1 : Int))) fun x89 =>
 next72 x89)) (
 Q true))))))))))
theorem walk_ref13_Like {x1 : GTree} {x2 : GTree} {r : Bool} (h : W_ref13_Like x1 x2 (fun r' => r' = r)) : Ev_ref13_Like x1 x2 r := by
 unfold W_ref13_Like at h
 refine intr (L := [(0, .dat (GTree.out x1)), (1, .dat (GTree.out x2))]) Tryz.func33 Tryz.ntmps33 ?_
 refine sN (bx (v := .dat (.st _ _)) ?_)
 refine bx (v := .dat (.st _ _)) ?_
 refine pB rfl (dn (AWp.seq (AWp.seq (rN (pP rfl (pI rfl (pP rfl (pI rfl (pB rfl (pB rfl (sB 11 h (fun h => ?_) (fun h => ?_))))))))))))
 ·refine fo 5 rfl (pB rfl (pB rfl (fo 5 rfl (pB rfl (pB rfl (fo 5 rfl (pB rfl (pB rfl (fo 5 rfl (pB rfl (pB rfl (fo 3 rfl ?_))))))))))))
  refine ff rfl (ff rfl (pB rfl (pB rfl (fo 5 rfl (pB rfl (pB rfl (fo 7 rfl (pB rfl (dn ?_)))))))))
  refine AWp.condT rfl ?_
  refine sN (pB rfl (dn (AWp.ret ?_)))
  subst h
  exact ⟨_, rfl, rfl⟩
 refine pP rfl (pG rfl (pP rfl (pG rfl (pB rfl (pB rfl (pB rfl (sB 18 h (fun h => ?_) (fun h => ?_))))))))
 ·refine fo 5 rfl (pB rfl (pB rfl (fo 5 rfl (pB rfl (pB rfl (fo 5 rfl (pB rfl (pB rfl (fo 5 rfl (pB rfl (pB rfl (fo 3 rfl ?_))))))))))))
  refine ff rfl (ff rfl (pB rfl (pB rfl (fo 7 rfl (pB rfl (dn ?_))))))
  refine AWp.condT rfl ?_
  refine sN (pB rfl (dn (AWp.ret ?_)))
  subst h
  exact ⟨_, rfl, rfl⟩
 refine pP rfl (pG rfl (pP rfl (pG rfl (pB rfl (pB rfl (pB rfl (sB 25 h (fun h => ?_) (fun h => ?_))))))))
 ·refine fo 5 rfl (pB rfl (pB rfl (fo 5 rfl (pB rfl (pB rfl (fo 5 rfl (pB rfl (pB rfl (fo 5 rfl (pB rfl (pB rfl (fo 3 rfl ?_))))))))))))
  refine fo 4 rfl (pB rfl (dn ?_))
  refine AWp.condT rfl ?_
  refine sN (pB rfl (dn (AWp.ret ?_)))
  subst h
  exact ⟨_, rfl, rfl⟩
 refine pP rfl (pI rfl (pP rfl (pI rfl (pB rfl (pB rfl (pB rfl (sB 32 h (fun h => ?_) (fun h => ?_))))))))
 ·refine fo 5 rfl (pB rfl (pB rfl (fo 5 rfl (pB rfl (pB rfl (fo 5 rfl (pB rfl (pB rfl (fo 7 rfl (pB rfl (dn ?_)))))))))))
  refine AWp.condT rfl ?_
  refine sN (pB rfl (dn (AWp.ret ?_)))
  subst h
  exact ⟨_, rfl, rfl⟩
 refine pP rfl (pI rfl (pP rfl (pI rfl (pB rfl (pB rfl (pB rfl (sB 39 h (fun h => ?_) (fun h => ?_))))))))
 ·refine fo 5 rfl (pB rfl (pB rfl (fo 5 rfl (pB rfl (pB rfl (fo 7 rfl (pB rfl (dn ?_))))))))
  refine AWp.condT rfl ?_
  refine sN (pB rfl (dn (AWp.ret ?_)))
  subst h
  exact ⟨_, rfl, rfl⟩
 refine pP rfl (pB rfl (pP rfl (pB rfl (pB rfl (pB rfl (pB rfl (sB 46 h (fun h => ?_) (fun h => ?_))))))))
 ·refine fo 5 rfl (pB rfl (pB rfl (fo 7 rfl (pB rfl (dn ?_)))))
  refine AWp.condT rfl ?_
  refine sN (pB rfl (dn (AWp.ret ?_)))
  subst h
  exact ⟨_, rfl, rfl⟩
 refine pP rfl (pT rfl (pP rfl (pT rfl ?_)))
 refine AOps.nes rfl rfl rfl rfl rfl rfl rfl (by decide +kernel) (GRat.eqok23 _ x1.Num x2.Num) ?_
 refine pB rfl (pB rfl (sB 53 h (fun h => ?_) (fun h => ?_)))
 ·refine fo 7 rfl (pB rfl (dn ?_))
  refine AWp.condT rfl ?_
  refine sN (pB rfl (dn (AWp.ret ?_)))
  subst h
  exact ⟨_, rfl, rfl⟩
 refine pP rfl (pS rfl (al (((x1.Kids.length : Nat) : Int)) rfl (pP rfl (pS rfl (al (((x2.Kids.length : Nat) : Int)) rfl (pB rfl (pB rfl (dn (cB h (fun h => ?_) (fun h => ?_))))))))))
 ·refine sN (pB rfl (dn (AWp.ret ?_)))
  subst h
  exact ⟨_, rfl, rfl⟩
 refine AWp.skip (AWp.seq (AWp.seq (rN (pP rfl (pS rfl (al (((x1.Kids.length : Nat) : Int)) rfl (pI rfl (dn (AWp.block ?_)))))))))
 obtain ⟨I90, x91, hz92, hr93⟩ := h
 refine AWp.loop (I := fun p : Int => mkSt [(2, .pt 2 [] 0), (3, .pt 3 [] 0), (64, .dat (.v (.int .i64 ((x1.Kids.length : Nat) : Int)))), (65, .dat (.v (.int .i64 p)))] [(2, .box 26 9 (.dat (GTree.out x1))), (3, .box 26 9 (.dat (GTree.out x2)))]) (Inv := fun p => I90 p) (μ := fun p => x91 p) (x0 := (0 : Int)) hz92 sl (fun p hp => ?_)
 have h := hr93 p hp
 revert h; clear hp; generalize p = x71; intro h
 refine sN (pW rfl (dn (AWp.seq (cB h (fun h => ?_) (fun h => ?_)))))
 ·refine AWp.skip (AWp.seq (AWp.block (AWp.seq (rN (pI rfl (pI rfl (dn (AWp.seq (rD (pP rfl (pS rfl (pI rfl (kI h GTree.get rfl rfl rfl rfl rfl rfl rfl fun x82 h => ?_)))))))))))))
  refine pT rfl (pP rfl (pS rfl (pI rfl (kI h GTree.get rfl rfl rfl rfl rfl rfl rfl fun x85 h => ?_))))
  refine pT rfl (kC h rfl ⟨.inl rfl, .inl rfl, trivial⟩ rfl fun x87 h => ?_)
  refine pB rfl (dn (cB h (fun h => ?_) (fun h => ?_)))
  ·refine sN (pB rfl (dn (AWp.ret ?_)))
   subst h
   exact ⟨_, rfl, rfl⟩
  refine AWp.skip (rN ?_)
  obtain ⟨x89, ex89, h⟩ := h.get
  refine ai ex89 rfl (pI rfl (dn ?_))
  exact ⟨x89, h.1, h.2, sl⟩
 refine AWp.exit ?_
 refine sN (pB rfl (dn (AWp.ret ?_)))
 subst h
 exact ⟨_, rfl, rfl⟩
def W_ref13_num (n1 : Int) (Q : ByteArray -> Prop) : Prop :=
 Call (Ev_strconv_Itoa n1) fun x2 =>
 Q x2
theorem walk_ref13_num {n1 : Int} {r : ByteArray} (h : W_ref13_num n1 (fun r' => r' = r)) : Ev_ref13_num n1 r := by
 unfold W_ref13_num at h
 refine intr (L := [(0, .dat (.v (.int .i64 n1)))]) Tryz.func34 Tryz.ntmps34 ?_
 refine sN (pG rfl (dn (AWp.seq (rN (pI rfl (kC h rfl ⟨.inl rfl, trivial⟩ rfl fun x2 h => ?_))))))
 refine pG rfl (dn (AWp.ret ?_))
 subst h
 exact ⟨_, rfl, rfl⟩
def W_ref13_low (x1 : GTree) (Q : ByteArray -> Prop) : Prop :=
 Br (x1.Kind == (1 : Int)) (
 Call (Ev_ref13_decimal x1.Num) fun x206 =>
 Q x206) (
 Br (x1.Kind == (2 : Int)) (
 Loop2 (ByteArray.mk #[]) (0 : Int) (fun (x295 : ByteArray) (x296 : Int) next297 =>
 Br (decide (x296 < ((x1.Kids.length : Nat) : Int))) (
 Join1 (fun j312 =>
 Br (decide (x296 > (0 : Int))) (
 Cat x295 (ByteArray.mk #[46]) fun x313 =>
 j312 x313) (
 j312 x295)
 ) (fun (x311 : ByteArray) =>
 At x1.Kids x296 fun x315 =>
 Call (Ev_ref13_low x315) fun x317 =>
 Cat x311 x317 fun x319 =>
 Let (IntKind.i64.wrap (x296 + (1 : Int))) fun x320 =>
 next297 x319 x320)) (
 Q x295))) (
 Br (x1.Kind == (3 : Int)) (
 Br (((x1.Kids.length : Nat) : Int) == (0 : Int)) (Q x1.Name) (
 Cat x1.Name (ByteArray.mk #[91]) fun x328 =>
 At x1.Kids (0 : Int) fun x330 =>
 Call (Ev_ref13_Text x330) fun x332 =>
 Cat x328 x332 fun x334 =>
 Cat x334 (ByteArray.mk #[93]) fun x335 =>
 Q x335)) (
 Br (x1.Kind == (4 : Int)) (
 At x1.Kids (0 : Int) fun x337 =>
 Call (Ev_ref13_Text x337) fun x339 =>
 Cat (ByteArray.mk #[100, 101, 114, 40]) x339 fun x341 =>
 Cat x341 (ByteArray.mk #[41]) fun x342 =>
 Q x342) (
 Br (x1.Kind == (5 : Int)) (Q (ByteArray.mk #[116, 105, 109, 101])) (
 Br (x1.Kind == (6 : Int)) (
 Let (IntKind.i64.wrap (x1.N - (9 : Int))) fun x343 =>
 At ([(ByteArray.mk #[115, 113, 114, 116]), (ByteArray.mk #[101, 120, 112]), (ByteArray.mk #[108, 111, 103]), (ByteArray.mk #[115, 105, 110]), (ByteArray.mk #[99, 111, 115]), (ByteArray.mk #[97, 116, 97, 110])]) x343 fun x345 =>
 Cat x345 (ByteArray.mk #[40]) fun x347 =>
 At x1.Kids (0 : Int) fun x349 =>
 Call (Ev_ref13_Text x349) fun x351 =>
 Cat x347 x351 fun x353 =>
 Cat x353 (ByteArray.mk #[41]) fun x354 =>
 Q x354) (
 Br (x1.Kind == (7 : Int)) (
 At x1.Kids (0 : Int) fun x356 =>
 Call (Ev_ref13_within x356) fun x358 =>
 Cat (ByteArray.mk #[45]) x358 fun x360 =>
 Q x360) (
 Join1 (fun j362 =>
 Br (x1.Kind == (8 : Int)) (j362 (x1.Kind == (8 : Int))) (
 Br (x1.Kind == (9 : Int)) (j362 (x1.Kind == (9 : Int))) (
 Br (x1.Kind == (10 : Int)) (j362 (x1.Kind == (10 : Int))) (
 j362 (x1.Kind == (11 : Int)))))
 ) (fun (x361 : Bool) =>
 Br x361 (
 At x1.Kids (0 : Int) fun x364 =>
 Call (Ev_ref13_within x364) fun x366 =>
 Let (IntKind.i64.wrap (x1.Kind - (8 : Int))) fun x368 =>
 At ([(ByteArray.mk #[32, 43, 32]), (ByteArray.mk #[32, 45, 32]), (ByteArray.mk #[32, 42, 32]), (ByteArray.mk #[32, 47, 32])]) x368 fun x370 =>
 Cat x366 x370 fun x372 =>
 At x1.Kids (1 : Int) fun x374 =>
 Call (Ev_ref13_within x374) fun x376 =>
 Cat x372 x376 fun x378 =>
 Q x378) (
 Br (x1.Kind == (12 : Int)) (
 At x1.Kids (0 : Int) fun x380 =>
 Call (Ev_ref13_within x380) fun x382 =>
 Cat x382 (ByteArray.mk #[94]) fun x384 =>
 Call (Ev_ref13_num x1.N) fun x385 =>
 Cat x384 x385 fun x387 =>
 Q x387) (
 Br (x1.Kind == (20 : Int)) (Q (ByteArray.mk #[49])) (
 Br (x1.Kind == (21 : Int)) (Q x1.Name) (
 Join1 (fun j389 =>
 Br (x1.Kind == (22 : Int)) (j389 (x1.Kind == (22 : Int))) (
 j389 (x1.Kind == (23 : Int)))
 ) (fun (x388 : Bool) =>
 Br x388 (
 At x1.Kids (0 : Int) fun x391 =>
 Call (Ev_ref13_within x391) fun x393 =>
 Let (IntKind.i64.wrap (x1.Kind - (22 : Int))) fun x395 =>
 At ([(ByteArray.mk #[32, 42, 32]), (ByteArray.mk #[32, 47, 32])]) x395 fun x397 =>
 Cat x393 x397 fun x399 =>
 At x1.Kids (1 : Int) fun x401 =>
 Call (Ev_ref13_within x401) fun x403 =>
 Cat x399 x403 fun x405 =>
 Q x405) (
 Call (Ev_ref13_num x1.Num.N) fun x406 =>
 Join1 (fun j415 =>
 Br (x1.Num.D != (1 : Int)) (
 Cat (ByteArray.mk #[40]) x406 fun x416 =>
 Cat x416 (ByteArray.mk #[32, 47, 32]) fun x417 =>
 Call (Ev_ref13_num x1.Num.D) fun x418 =>
 Cat x417 x418 fun x420 =>
 Cat x420 (ByteArray.mk #[41]) fun x421 =>
 j415 x421) (
 j415 x406)
 ) (fun (x414 : ByteArray) =>
 At x1.Kids (0 : Int) fun x423 =>
 Call (Ev_ref13_within x423) fun x425 =>
 Cat x425 (ByteArray.mk #[94]) fun x427 =>
 Cat x427 x414 fun x428 =>
 Q x428)))))))))))))))
theorem walk_ref13_low {x1 : GTree} {r : ByteArray} (h : W_ref13_low x1 (fun r' => r' = r)) : Ev_ref13_low x1 r := by
 unfold W_ref13_low at h
 refine intr (L := [(0, .dat (GTree.out x1))]) Tryz.func35 Tryz.ntmps35 ?_
 refine sN (bx (v := .dat (.st _ _)) ?_)
 refine pG rfl (dn (AWp.seq (rN (pP rfl (pS rfl (pS rfl (dn (AWp.seq (AWp.seq (rN (pP rfl (pI rfl (dn (AWp.block (AWp.seq (rN (pB rfl (pB rfl (dn (cB h (fun h => ?_) (fun h => ?_)))))))))))))))))))))
 ·refine sN (pP rfl (pT rfl (kC h rfl ⟨.inl rfl, trivial⟩ rfl fun x206 h => ?_)))
  refine pG rfl (dn (AWp.ret ?_))
  subst h
  exact ⟨_, rfl, rfl⟩
 refine sN (pB rfl (pB rfl (dn (cB h (fun h => ?_) (fun h => ?_)))))
 ·refine sN (pG rfl (dn (AWp.seq (AWp.seq (rN (pS rfl (al (((x1.Kids.length : Nat) : Int)) rfl (pI rfl (dn (AWp.block ?_))))))))))
  obtain ⟨I323, x324, hz325, hr326⟩ := h
  refine AWp.loop (I := fun p : ByteArray × Int => mkSt [(3, .dat (.sl 26 9 (List.map GTree.enc x1.Kids))), (4, .dat (.v (.string p.1))), (19, .dat (.v (.int .i64 ((x1.Kids.length : Nat) : Int)))), (20, .dat (.v (.int .i64 p.2)))] []) (Inv := fun p => I323 p.1 p.2) (μ := fun p => x324 p.1 p.2) (x0 := ⟨(ByteArray.mk #[]), (0 : Int)⟩) hz325 sl (fun p hp => ?_)
  obtain ⟨x295, x296⟩ := p
  have h := hr326 x295 x296 hp
  refine sN (pW rfl (dn (AWp.seq (cB h (fun h => ?_) (fun h => ?_)))))
  ·refine AWp.skip (AWp.seq (AWp.block (AWp.seq (rN (pI rfl (pI rfl (dn (AWp.seq (AWp.seq (rN (pI rfl (pB rfl (dn ?_)))))))))))))
   obtain ⟨J321, h, hk322⟩ := h
   refine AWp.cutK (I := fun p : ByteArray => mkSt [(3, .dat (.sl 26 9 (List.map GTree.enc x1.Kids))), (4, .dat (.v (.string p))), (5, .dat (.v (.int .i64 x296))), (19, .dat (.v (.int .i64 ((x1.Kids.length : Nat) : Int)))), (20, .dat (.v (.int .i64 x296)))] []) (Inv := fun p : ByteArray => J321 p) ?_ (fun p hp => ?_)
   ·refine cB h (fun h => ?_) (fun h => ?_)
    ·refine rN (pG rfl (kc h rfl rfl rfl rfl fun x313 h => ?_))
     refine pG rfl (dn ?_)
     exact ⟨x313, h, sl⟩
    refine AWp.skip ?_
    exact ⟨x295, h, sl⟩
   replace h := hk322 p hp
   revert h; clear hp; generalize p = x311; intro h
   refine rN (pG rfl (pS rfl (pI rfl (kI h GTree.get rfl rfl rfl rfl rfl rfl rfl fun x315 h => ?_))))
   refine pT rfl (kC h rfl ⟨.inl rfl, trivial⟩ rfl fun x317 h => ?_)
   refine kc h rfl rfl rfl rfl fun x319 h => pG rfl ?_
   refine dn (rN ?_)
   obtain ⟨x320, ex320, h⟩ := h.get
   refine ai ex320 rfl (pI rfl (dn ?_))
   exact ⟨⟨x319, x320⟩, h.1, h.2, sl⟩
  refine AWp.exit ?_
  refine sN (pG rfl (pG rfl (dn (AWp.ret ?_))))
  subst h
  exact ⟨_, rfl, rfl⟩
 refine sN (pB rfl (pB rfl (dn (cB h (fun h => ?_) (fun h => ?_)))))
 ·refine AWp.seq (AWp.seq (rN (pS rfl (al (((x1.Kids.length : Nat) : Int)) rfl (pB rfl (dn (cB h (fun h => ?_) (fun h => ?_))))))))
  ·refine sN (pP rfl (pG rfl (pG rfl (dn (AWp.ret ?_)))))
   subst h
   exact ⟨_, rfl, rfl⟩
  refine AWp.skip (AWp.seq (rD (pP rfl (pG rfl (kc h rfl rfl rfl rfl fun x328 h => ?_)))))
  refine pS rfl (kI h GTree.get rfl rfl rfl rfl rfl rfl rfl fun x330 h => ?_)
  refine pT rfl (kC h rfl ⟨.inl rfl, trivial⟩ rfl fun x332 h => ?_)
  refine kc h rfl rfl rfl rfl fun x334 h => kc h rfl rfl rfl rfl fun x335 h => pG rfl ?_
  subst h; exact dn (AWp.ret ⟨_, rfl, rfl⟩)
 refine sN (pB rfl (pB rfl (dn (cB h (fun h => ?_) (fun h => ?_)))))
 ·refine sN (pS rfl (kI h GTree.get rfl rfl rfl rfl rfl rfl rfl fun x337 h => ?_))
  refine pT rfl (kC h rfl ⟨.inl rfl, trivial⟩ rfl fun x339 h => ?_)
  refine kc h rfl rfl rfl rfl fun x341 h => kc h rfl rfl rfl rfl fun x342 h => pG rfl ?_
  subst h; exact dn (AWp.ret ⟨_, rfl, rfl⟩)
 refine sN (pB rfl (pB rfl (dn (cB h (fun h => ?_) (fun h => ?_)))))
 ·refine sN (pG rfl (dn (AWp.ret ?_)))
  subst h
  exact ⟨_, rfl, rfl⟩
 refine sN (pB rfl (pB rfl (dn (cB h (fun h => ?_) (fun h => ?_)))))
 ·refine sD ?_
  refine AOps.lit tabOk (ys := [.v (.string (ByteArray.mk #[115, 113, 114, 116])), .v (.string (ByteArray.mk #[101, 120, 112])), .v (.string (ByteArray.mk #[108, 111, 103])), .v (.string (ByteArray.mk #[115, 105, 110])), .v (.string (ByteArray.mk #[99, 111, 115])), .v (.string (ByteArray.mk #[97, 116, 97, 110]))]) rfl rfl rfl rfl rfl rfl ?_
  refine pP rfl (pI rfl ?_)
  obtain ⟨x343, ex343, h⟩ := h.get
  refine ai ex343 rfl (kI h (map_get (e := eStr)) rfl rfl rfl rfl rfl rfl rfl fun x345 h => ?_)
  refine pG rfl (kc h rfl rfl rfl rfl fun x347 h => ?_)
  refine pS rfl (kI h GTree.get rfl rfl rfl rfl rfl rfl rfl fun x349 h => ?_)
  refine pT rfl (kC h rfl ⟨.inl rfl, trivial⟩ rfl fun x351 h => ?_)
  refine kc h rfl rfl rfl rfl fun x353 h => kc h rfl rfl rfl rfl fun x354 h => pG rfl ?_
  subst h; exact dn (AWp.ret ⟨_, rfl, rfl⟩)
 refine sN (pB rfl (pB rfl (dn (cB h (fun h => ?_) (fun h => ?_)))))
 ·refine sN (pS rfl (kI h GTree.get rfl rfl rfl rfl rfl rfl rfl fun x356 h => ?_))
  refine pT rfl (kC h rfl ⟨.inl rfl, trivial⟩ rfl fun x358 h => ?_)
  refine kc h rfl rfl rfl rfl fun x360 h => pG rfl ?_
  subst h; exact dn (AWp.ret ⟨_, rfl, rfl⟩)
 refine AWp.seq (AWp.seq (rN (pB rfl (pB rfl (dn ?_)))))
 obtain ⟨J433, h, hk434⟩ := h
 refine AWp.cutK (I := fun p : Bool => mkSt [(1, .pt 1 [] 0), (3, .dat (.sl 26 9 (List.map GTree.enc x1.Kids))), (10, .dat (.v (.int .i64 x1.Kind))), (84, .dat (.v (.bool p)))] [(1, .box 26 9 (.dat (GTree.out x1)))]) (Inv := fun p : Bool => J433 p) ?_ (fun p hp => ?_)
 ·refine cB h (fun h => ?_) (fun h => ?_)
  ·refine AWp.skip ?_
   exact ⟨(x1.Kind == (8 : Int)), h, sl⟩
  refine sN (pB rfl (pB rfl (dn (cB h (fun h => ?_) (fun h => ?_)))))
  ·refine AWp.skip ?_
   exact ⟨(x1.Kind == (9 : Int)), h, sl⟩
  refine sN (pB rfl (pB rfl (dn (cB h (fun h => ?_) (fun h => ?_)))))
  ·refine AWp.skip ?_
   exact ⟨(x1.Kind == (10 : Int)), h, sl⟩
  refine rN (pB rfl (pB rfl (dn ?_)))
  exact ⟨(x1.Kind == (11 : Int)), h, sl⟩
 replace h := hk434 p hp
 revert h; clear hp; generalize p = x361; intro h
 refine cB h (fun h => ?_) (fun h => ?_)
 ·refine sD (pS rfl (kI h GTree.get rfl rfl rfl rfl rfl rfl rfl fun x364 h => ?_))
  refine pT rfl (kC h rfl ⟨.inl rfl, trivial⟩ rfl fun x366 h => ?_)
  refine AOps.lit tabOk (ys := [.v (.string (ByteArray.mk #[32, 43, 32])), .v (.string (ByteArray.mk #[32, 45, 32])), .v (.string (ByteArray.mk #[32, 42, 32])), .v (.string (ByteArray.mk #[32, 47, 32]))]) rfl rfl rfl rfl rfl rfl ?_
  refine pP rfl (pI rfl ?_)
  obtain ⟨x368, ex368, h⟩ := h.get
  refine ai ex368 rfl (kI h (map_get (e := eStr)) rfl rfl rfl rfl rfl rfl rfl fun x370 h => ?_)
  refine pG rfl (kc h rfl rfl rfl rfl fun x372 h => ?_)
  refine pS rfl (kI h GTree.get rfl rfl rfl rfl rfl rfl rfl fun x374 h => ?_)
  refine pT rfl (kC h rfl ⟨.inl rfl, trivial⟩ rfl fun x376 h => ?_)
  refine kc h rfl rfl rfl rfl fun x378 h => pG rfl ?_
  subst h; exact dn (AWp.ret ⟨_, rfl, rfl⟩)
 refine sN (pB rfl (pB rfl (dn (cB h (fun h => ?_) (fun h => ?_)))))
 ·refine sD (pS rfl (kI h GTree.get rfl rfl rfl rfl rfl rfl rfl fun x380 h => ?_))
  refine pT rfl (kC h rfl ⟨.inl rfl, trivial⟩ rfl fun x382 h => ?_)
  refine kc h rfl rfl rfl rfl fun x384 h => pP rfl ?_
  refine pI rfl (kC h rfl ⟨.inl rfl, trivial⟩ rfl fun x385 h => ?_)
  refine kc h rfl rfl rfl rfl fun x387 h => pG rfl ?_
  subst h; exact dn (AWp.ret ⟨_, rfl, rfl⟩)
 refine sN (pB rfl (pB rfl (dn (cB h (fun h => ?_) (fun h => ?_)))))
 ·refine sN (pG rfl (dn (AWp.ret ?_)))
  subst h
  exact ⟨_, rfl, rfl⟩
 refine sN (pB rfl (pB rfl (dn (cB h (fun h => ?_) (fun h => ?_)))))
 ·refine sN (pP rfl (pG rfl (pG rfl (dn (AWp.ret ?_)))))
  subst h
  exact ⟨_, rfl, rfl⟩
 refine AWp.seq (AWp.seq (rN (pB rfl (pB rfl (dn ?_)))))
 obtain ⟨J431, h, hk432⟩ := h
 refine AWp.cutK (I := fun p : Bool => mkSt [(1, .pt 1 [] 0), (3, .dat (.sl 26 9 (List.map GTree.enc x1.Kids))), (122, .dat (.v (.bool p)))] [(1, .box 26 9 (.dat (GTree.out x1)))]) (Inv := fun p : Bool => J431 p) ?_ (fun p hp => ?_)
 ·refine cB h (fun h => ?_) (fun h => ?_)
  ·refine AWp.skip ?_
   exact ⟨(x1.Kind == (22 : Int)), h, sl⟩
  refine rN (pB rfl (pB rfl (dn ?_)))
  exact ⟨(x1.Kind == (23 : Int)), h, sl⟩
 replace h := hk432 p hp
 revert h; clear hp; generalize p = x388; intro h
 refine cB h (fun h => ?_) (fun h => ?_)
 ·refine sD (pS rfl (kI h GTree.get rfl rfl rfl rfl rfl rfl rfl fun x391 h => ?_))
  refine pT rfl (kC h rfl ⟨.inl rfl, trivial⟩ rfl fun x393 h => ?_)
  refine AOps.lit tabOk (ys := [.v (.string (ByteArray.mk #[32, 42, 32])), .v (.string (ByteArray.mk #[32, 47, 32]))]) rfl rfl rfl rfl rfl rfl ?_
  refine pP rfl (pI rfl ?_)
  obtain ⟨x395, ex395, h⟩ := h.get
  refine ai ex395 rfl (kI h (map_get (e := eStr)) rfl rfl rfl rfl rfl rfl rfl fun x397 h => ?_)
  refine pG rfl (kc h rfl rfl rfl rfl fun x399 h => ?_)
  refine pS rfl (kI h GTree.get rfl rfl rfl rfl rfl rfl rfl fun x401 h => ?_)
  refine pT rfl (kC h rfl ⟨.inl rfl, trivial⟩ rfl fun x403 h => ?_)
  refine kc h rfl rfl rfl rfl fun x405 h => pG rfl ?_
  subst h; exact dn (AWp.ret ⟨_, rfl, rfl⟩)
 refine AWp.skip (AWp.seq (rN (pP rfl (pP rfl (pI rfl (kC h rfl ⟨.inl rfl, trivial⟩ rfl fun x406 h => ?_))))))
 refine pG rfl (dn (AWp.seq (AWp.seq (rN (pP rfl (pP rfl (pI rfl (pB rfl (dn ?_)))))))))
 obtain ⟨J429, h, hk430⟩ := h
 refine AWp.cutK (I := fun p : ByteArray => mkSt [(3, .dat (.sl 26 9 (List.map GTree.enc x1.Kids))), (6, .dat (.v (.string p)))] []) (Inv := fun p : ByteArray => J429 p) ?_ (fun p hp => ?_)
 ·refine cB h (fun h => ?_) (fun h => ?_)
  ·refine rN (pG rfl (kc h rfl rfl rfl rfl fun x416 h => ?_))
   refine kc h rfl rfl rfl rfl fun x417 h => pP rfl ?_
   refine pP rfl (pI rfl (kC h rfl ⟨.inl rfl, trivial⟩ rfl fun x418 h => ?_))
   refine kc h rfl rfl rfl rfl fun x420 h => kc h rfl rfl rfl rfl fun x421 h => pG rfl ?_
   refine dn ?_
   exact ⟨x421, h, sl⟩
  refine AWp.skip ?_
  exact ⟨x406, h, sl⟩
 replace h := hk430 p hp
 revert h; clear hp; generalize p = x414; intro h
 refine sN (pS rfl (kI h GTree.get rfl rfl rfl rfl rfl rfl rfl fun x423 h => ?_))
 refine pT rfl (kC h rfl ⟨.inl rfl, trivial⟩ rfl fun x425 h => ?_)
 refine kc h rfl rfl rfl rfl fun x427 h => pG rfl ?_
 refine kc h rfl rfl rfl rfl fun x428 h => pG rfl ?_
 subst h; exact dn (AWp.ret ⟨_, rfl, rfl⟩)
def W_slices_EqualFunc_api_Tree (s1 : List GTree) (s2 : List GTree) (eq3 : DV) (Q : Bool -> Prop) : Prop :=
 Br (((s1.length : Nat) : Int) != ((s2.length : Nat) : Int)) (Q false) (
 Loop1 (0 : Int) (fun (x66 : Int) next67 =>
 Br (decide (x66 < ((s1.length : Nat) : Int))) (
 At s1 x66 fun x77 =>
 At s2 x66 fun x80 =>
 Call (fun x82 : Bool => FVal prog eq3 [GTree.out x77, GTree.out x80] (.v (.bool x82))) fun x82 =>
 Br (!x82) (Q false) (
 Let (IntKind.i64.wrap (x66 + (1 : Int))) fun x84 =>
 next67 x84)) (
 Q true)))
theorem walk_slices_EqualFunc_api_Tree {s1 : List GTree} {s2 : List GTree} {eq3 : DV} {r : Bool} (h : W_slices_EqualFunc_api_Tree s1 s2 eq3 (fun r' => r' = r)) : Ev_slices_EqualFunc_api_Tree s1 s2 eq3 r := by
 unfold W_slices_EqualFunc_api_Tree at h
 refine intr (L := [(0, .dat (.sl 26 9 (List.map GTree.enc s1))), (1, .dat (.sl 26 9 (List.map GTree.enc s2))), (2, .dat (eq3))]) Tryz.func49 Tryz.ntmps49 ?_
 refine sN (pB rfl (dn (AWp.seq (AWp.seq (rN (pS rfl (al (((s1.length : Nat) : Int)) rfl (pS rfl (al (((s2.length : Nat) : Int)) rfl (pB rfl (dn (cB h (fun h => ?_) (fun h => ?_)))))))))))))
 ·refine sN (pB rfl (dn (AWp.ret ?_)))
  subst h
  exact ⟨_, rfl, rfl⟩
 refine AWp.skip (AWp.seq (AWp.seq (rN (pS rfl (al (((s1.length : Nat) : Int)) rfl (pI rfl (dn (AWp.block ?_))))))))
 obtain ⟨I85, x86, hz87, hr88⟩ := h
 refine AWp.loop (I := fun p : Int => mkSt [(1, .dat (.sl 26 9 (List.map GTree.enc s2))), (2, .dat (eq3)), (15, .dat (.sl 26 9 (List.map GTree.enc s1))), (16, .dat (.v (.int .i64 ((s1.length : Nat) : Int)))), (17, .dat (.v (.int .i64 p)))] []) (Inv := fun p => I85 p) (μ := fun p => x86 p) (x0 := (0 : Int)) hz87 sl (fun p hp => ?_)
 have h := hr88 p hp
 revert h; clear hp; generalize p = x66; intro h
 refine sN (pW rfl (dn (AWp.seq (cB h (fun h => ?_) (fun h => ?_)))))
 ·refine AWp.skip (AWp.seq (AWp.block (AWp.seq (rW (pI rfl (kI h GTree.get rfl rfl rfl rfl rfl rfl rfl fun x77 h => ?_))))))
  refine pT rfl (al0 ?_)
  refine pI rfl (st (v := .dat (.st _ _)) ?_)
  refine dn (sW (pS rfl (pI rfl (kI h GTree.get rfl rfl rfl rfl rfl rfl rfl fun x80 h => ?_))))
  refine pT rfl (al0 ?_)
  refine st (v := .dat (.st _ _)) ?_
  refine dn (sN ?_)
  refine AOps.mv rfl rfl (.inl rfl) rfl ?_
  refine pT rfl (pT rfl ?_)
  obtain ⟨x82, hc83, h⟩ := h
  refine AOps.callv hc83 rfl rfl rfl rfl ⟨.inl rfl, .inl rfl, trivial⟩ ?_
  refine pB rfl (dn (cB h (fun h => ?_) (fun h => ?_)))
  ·refine sN (pB rfl (dn (AWp.ret ?_)))
   subst h
   exact ⟨_, rfl, rfl⟩
  refine AWp.skip (rN ?_)
  obtain ⟨x84, ex84, h⟩ := h.get
  refine ai ex84 rfl (pI rfl (dn ?_))
  exact ⟨x84, h.1, h.2, sl⟩
 refine AWp.exit ?_
 refine sN (pB rfl (dn (AWp.ret ?_)))
 subst h
 exact ⟨_, rfl, rfl⟩
def W_internal_strconv_Itoa (i1 : Int) (Q : ByteArray -> Prop) : Prop :=
 Call (Ev_internal_strconv_FormatInt i1 (10 : Int)) fun x2 =>
 Q x2
theorem walk_internal_strconv_Itoa {i1 : Int} {r : ByteArray} (h : W_internal_strconv_Itoa i1 (fun r' => r' = r)) : Ev_internal_strconv_Itoa i1 r := by
 unfold W_internal_strconv_Itoa at h
 refine intr (L := [(0, .dat (.v (.int .i64 i1)))]) Tryz.func50 Tryz.ntmps50 ?_
 refine sN (pG rfl (dn (AWp.seq (rN (pI rfl (kC h rfl ⟨.inl rfl, .inl rfl, trivial⟩ rfl fun x2 h => ?_))))))
 refine pG rfl (dn (AWp.ret ?_))
 subst h
 exact ⟨_, rfl, rfl⟩
def W_parse_exprText_1 (sign1 : ByteArray) (x2 : List GTree) (Q : ByteArray -> Prop) : Prop :=
 At x2 (0 : Int) fun x4 =>
 Call (Ev_parse_operand x4) fun x6 =>
 Cat x6 sign1 fun x8 =>
 At x2 (1 : Int) fun x10 =>
 Call (Ev_parse_operand x10) fun x12 =>
 Cat x8 x12 fun x14 =>
 Q x14
theorem walk_parse_exprText_1 {sign1 : ByteArray} {x2 : List GTree} {r : ByteArray} (h : W_parse_exprText_1 sign1 x2 (fun r' => r' = r)) : Ev_parse_exprText_1 sign1 x2 r := by
 unfold W_parse_exprText_1 at h
 refine intr (L := [(0, .dat (.v (.string sign1))), (1, .dat (.pd (.sl 26 9 (List.map GTree.enc x2))))]) Tryz.func51 Tryz.ntmps51 ?_
 refine AWp.unpd 1 rfl ?_
 refine sN (pG rfl (dn (AWp.seq (rD (pS rfl (kI h GTree.get rfl rfl rfl rfl rfl rfl rfl fun x4 h => ?_))))))
 refine pT rfl (kC h rfl ⟨.inl rfl, trivial⟩ rfl fun x6 h => ?_)
 refine pG rfl (kc h rfl rfl rfl rfl fun x8 h => ?_)
 refine pS rfl (kI h GTree.get rfl rfl rfl rfl rfl rfl rfl fun x10 h => ?_)
 refine pT rfl (kC h rfl ⟨.inl rfl, trivial⟩ rfl fun x12 h => ?_)
 refine kc h rfl rfl rfl rfl fun x14 h => pG rfl ?_
 subst h; exact dn (AWp.ret ⟨_, rfl, rfl⟩)
def W_parse_operand (t1 : GTree) (Q : ByteArray -> Prop) : Prop :=
 Join1 (fun j3 =>
 Br (decide (t1.Kind >= (7 : Int))) (
 Br (decide (t1.Kind <= (12 : Int))) (j3 true) (
 Br (decide (t1.Kind >= (22 : Int))) (j3 (decide (t1.Kind <= (24 : Int)))) (
 j3 false))) (
 Br (decide (t1.Kind >= (22 : Int))) (j3 (decide (t1.Kind <= (24 : Int)))) (
 j3 false))
 ) (fun (x2 : Bool) =>
 Br x2 (
 Call (Ev_parse_exprText t1) fun x8 =>
 Cat (ByteArray.mk #[40]) x8 fun x10 =>
 Cat x10 (ByteArray.mk #[41]) fun x11 =>
 Q x11) (
 Call (Ev_parse_exprText t1) fun x12 =>
 Q x12))
theorem walk_parse_operand {t1 : GTree} {r : ByteArray} (h : W_parse_operand t1 (fun r' => r' = r)) : Ev_parse_operand t1 r := by
 unfold W_parse_operand at h
 refine intr (L := [(0, .dat (GTree.out t1))]) Tryz.func52 Tryz.ntmps52 ?_
 refine sN (bx (v := .dat (.st _ _)) ?_)
 refine pG rfl (dn (AWp.seq (AWp.seq ?_)))
 obtain ⟨J14, h, hk15⟩ := h
 refine AWp.cutK (I := fun p : Bool => mkSt [(1, .pt 1 [] 0), (20, .dat (.v (.bool p)))] [(1, .box 26 9 (.dat (GTree.out t1)))]) (Inv := fun p : Bool => J14 p) ?_ (fun p hp => ?_)
 ·refine rN (pP rfl (pI rfl (pB rfl (pB rfl (sB 6 h (fun h => ?_) (fun h => ?_))))))
  ·refine pP rfl (pI rfl (pB rfl (pB rfl (pB rfl (sB 11 h (fun h => ?_) (fun h => ?_))))))
   ·refine fo 8 rfl (pB rfl (dn ?_))
    exact ⟨true, h, sl⟩
   refine pP rfl (pI rfl (pB rfl (pB rfl (sB 15 h (fun h => ?_) (fun h => ?_)))))
   ·refine pP rfl (pI rfl (pB rfl (pB rfl (pB rfl (dn ?_)))))
    exact ⟨(decide (t1.Kind <= (24 : Int))), h, sl⟩
   refine fo 3 rfl (pB rfl (pB rfl (dn ?_)))
   exact ⟨false, h, sl⟩
  refine fo 3 rfl (pB rfl (pB rfl (pP rfl (pI rfl (pB rfl (pB rfl (sB 15 h (fun h => ?_) (fun h => ?_))))))))
  ·refine pP rfl (pI rfl (pB rfl (pB rfl (pB rfl (dn ?_)))))
   exact ⟨(decide (t1.Kind <= (24 : Int))), h, sl⟩
  refine fo 3 rfl (pB rfl (pB rfl (dn ?_)))
  exact ⟨false, h, sl⟩
 replace h := hk15 p hp
 revert h; clear hp; generalize p = x2; intro h
 refine cB h (fun h => ?_) (fun h => ?_)
 ·refine sN (pT rfl (kC h rfl ⟨.inl rfl, trivial⟩ rfl fun x8 h => ?_))
  refine kc h rfl rfl rfl rfl fun x10 h => kc h rfl rfl rfl rfl fun x11 h => pG rfl ?_
  subst h; exact dn (AWp.ret ⟨_, rfl, rfl⟩)
 refine AWp.skip (AWp.seq (rN (pT rfl (kC h rfl ⟨.inl rfl, trivial⟩ rfl fun x12 h => ?_))))
 refine pG rfl (dn (AWp.ret ?_))
 subst h
 exact ⟨_, rfl, rfl⟩
def W_parse_digits (a1 : GRat) (Q : ByteArray -> Prop) : Prop :=
 Nz a1.D <|
 Let (IntKind.i64.wrap (Int.tdiv a1.N a1.D)) fun x2 =>
 Call (Ev_strconv_FormatInt x2 (10 : Int)) fun x3 =>
 Br (a1.D == (1 : Int)) (Q x3) (
 Nz a1.D <|
 Let (Int.tmod a1.N a1.D) fun x5 =>
 Nz a1.D <|
 Let (IntKind.i64.wrap (Int.tdiv (1000000000000000000 : Int) a1.D)) fun x6 =>
 Let (IntKind.i64.wrap (x5 * x6)) fun x7 =>
 Call (Ev_strconv_FormatInt x7 (10 : Int)) fun x8 =>
 Let (IntKind.i64.wrap ((18 : Int) - ((x8.size : Nat) : Int))) fun x10 =>
 Call (Ev_strings_Repeat (ByteArray.mk #[48]) x10) fun x11 =>
 Cat x11 x8 fun x13 =>
 Cat x3 (ByteArray.mk #[46]) fun x14 =>
 Call (Ev_strings_TrimRight x13 (ByteArray.mk #[48])) fun x15 =>
 Cat x14 x15 fun x17 =>
 Q x17)
theorem walk_parse_digits {a1 : GRat} {r : ByteArray} (h : W_parse_digits a1 (fun r' => r' = r)) : Ev_parse_digits a1 r := by
 unfold W_parse_digits at h
 refine intr (L := [(0, .dat (GRat.enc a1))]) Tryz.func53 Tryz.ntmps53 ?_
 refine sN (bx (v := .dat (.st _ _)) ?_)
 refine pG rfl (dn (AWp.seq (rN (pP rfl (pI rfl (pP rfl (pI rfl ?_)))))))
 obtain ⟨hq, h⟩ := h
 obtain ⟨x2, ex2, h⟩ := h.get
 refine AOps.q rfl rfl rfl rfl rfl (rbin_quo hq) ex2 ?_
 refine kC h rfl ⟨.inl rfl, .inl rfl, trivial⟩ rfl fun x3 h => pG rfl ?_
 refine dn (AWp.seq (AWp.seq (rN (pP rfl (pI rfl (pB rfl (dn (cB h (fun h => ?_) (fun h => ?_)))))))))
 ·refine sN (pG rfl (pG rfl (dn (AWp.ret ?_))))
  subst h
  exact ⟨_, rfl, rfl⟩
 refine AWp.skip (AWp.seq (rD (pP rfl (pI rfl (pP rfl (pI rfl ?_))))))
 obtain ⟨hq, h⟩ := h
 obtain ⟨x5, ex5, h⟩ := h.get
 refine AOps.q rfl rfl rfl rfl rfl (rbin_rem hq) ex5 ?_
 refine pP rfl (pI rfl ?_)
 obtain ⟨hq, h⟩ := h
 obtain ⟨x6, ex6, h⟩ := h.get
 refine AOps.q rfl rfl rfl rfl rfl (rbin_quo hq) ex6 ?_
 obtain ⟨x7, ex7, h⟩ := h.get
 refine ai ex7 rfl (kC h rfl ⟨.inl rfl, .inl rfl, trivial⟩ rfl fun x8 h => ?_)
 refine pG rfl (dn (AWp.seq (rN (pG rfl (pI rfl ?_)))))
 obtain ⟨x10, ex10, h⟩ := h.get
 refine ai ex10 rfl (kC h rfl ⟨.inl rfl, .inl rfl, trivial⟩ rfl fun x11 h => ?_)
 refine pG rfl (kc h rfl rfl rfl rfl fun x13 h => ?_)
 refine pG rfl (dn (AWp.seq (rN (pG rfl (kc h rfl rfl rfl rfl fun x14 h => ?_)))))
 refine pG rfl (kC h rfl ⟨.inl rfl, .inl rfl, trivial⟩ rfl fun x15 h => ?_)
 refine kc h rfl rfl rfl rfl fun x17 h => pG rfl ?_
 subst h; exact dn (AWp.ret ⟨_, rfl, rfl⟩)
def W_parse_exprText_2 (i1 : GTree) (Q : ByteArray -> Prop) : Prop :=
 Call (Ev_parse_exprText i1) fun x2 =>
 Cat (ByteArray.mk #[91]) x2 fun x4 =>
 Cat x4 (ByteArray.mk #[93]) fun x5 =>
 Q x5
theorem walk_parse_exprText_2 {i1 : GTree} {r : ByteArray} (h : W_parse_exprText_2 i1 (fun r' => r' = r)) : Ev_parse_exprText_2 i1 r := by
 unfold W_parse_exprText_2 at h
 refine intr (L := [(0, .dat (GTree.out i1))]) Tryz.func54 Tryz.ntmps54 ?_
 refine sN (bx (v := .dat (.st _ _)) ?_)
 refine pG rfl (dn (AWp.seq (rN (pT rfl (kC h rfl ⟨.inl rfl, trivial⟩ rfl fun x2 h => ?_)))))
 refine kc h rfl rfl rfl rfl fun x4 h => kc h rfl rfl rfl rfl fun x5 h => pG rfl ?_
 subst h; exact dn (AWp.ret ⟨_, rfl, rfl⟩)
def W_parse_functions (Q : List ByteArray -> Prop) : Prop :=
 Q ([(ByteArray.mk #[]), (ByteArray.mk #[]), (ByteArray.mk #[]), (ByteArray.mk #[]), (ByteArray.mk #[]), (ByteArray.mk #[]), (ByteArray.mk #[]), (ByteArray.mk #[]), (ByteArray.mk #[]), (ByteArray.mk #[115, 113, 114, 116]), (ByteArray.mk #[101, 120, 112]), (ByteArray.mk #[108, 111, 103]), (ByteArray.mk #[115, 105, 110]), (ByteArray.mk #[99, 111, 115]), (ByteArray.mk #[97, 116, 97, 110])])
theorem walk_parse_functions {r : List ByteArray} (h : W_parse_functions (fun r' => r' = r)) : Ev_parse_functions r := by
 unfold W_parse_functions at h
 refine intr (L := []) Tryz.func55 Tryz.ntmps55 ?_
 refine sN (pS rfl (dn (AWp.seq (rN ?_))))
 refine AOps.lit tabOk (ys := [.v (.string (ByteArray.mk #[])), .v (.string (ByteArray.mk #[])), .v (.string (ByteArray.mk #[])), .v (.string (ByteArray.mk #[])), .v (.string (ByteArray.mk #[])), .v (.string (ByteArray.mk #[])), .v (.string (ByteArray.mk #[])), .v (.string (ByteArray.mk #[])), .v (.string (ByteArray.mk #[])), .v (.string (ByteArray.mk #[115, 113, 114, 116])), .v (.string (ByteArray.mk #[101, 120, 112])), .v (.string (ByteArray.mk #[108, 111, 103])), .v (.string (ByteArray.mk #[115, 105, 110])), .v (.string (ByteArray.mk #[99, 111, 115])), .v (.string (ByteArray.mk #[97, 116, 97, 110]))]) rfl rfl rfl rfl rfl rfl ?_
 refine pS rfl (dn (AWp.ret ?_))
 subst h
 exact ⟨_, rfl, rfl⟩
def W_ref13_decimal (a1 : GRat) (Q : ByteArray -> Prop) : Prop :=
 Nz a1.D <|
 Let (IntKind.i64.wrap (Int.tdiv a1.N a1.D)) fun x2 =>
 Call (Ev_ref13_num x2) fun x3 =>
 Nz a1.D <|
 Let (Int.tmod a1.N a1.D) fun x5 =>
 Join1 (fun j8 =>
 Br (decide (x5 > (0 : Int))) (
 Cat x3 (ByteArray.mk #[46]) fun x9 =>
 j8 x9) (
 j8 x3)
 ) (fun (s7 : ByteArray) =>
 Loop2 s7 x5 (fun (s296 : ByteArray) (rest297 : Int) next298 =>
 Br (decide (rest297 > (0 : Int))) (
 Loop3 (0 : Int) (0 : Int) (0 : Int) (fun (d363 : Int) (left364 : Int) (i365 : Int) next366 =>
 Br (decide (i365 < (10 : Int))) (
 Join2 (fun j374 =>
 Let (IntKind.i64.wrap (a1.D - rest297)) fun x375 =>
 Br (decide (left364 >= x375)) (
 Let (IntKind.i64.wrap (a1.D - rest297)) fun x376 =>
 Let (IntKind.i64.wrap (left364 - x376)) fun x377 =>
 Let (IntKind.i64.wrap (d363 + (1 : Int))) fun x378 =>
 j374 x378 x377) (
 Let (IntKind.i64.wrap (left364 + rest297)) fun x379 =>
 j374 d363 x379)
 ) (fun (d372 : Int) (left373 : Int) =>
 Let (IntKind.i64.wrap (i365 + (1 : Int))) fun x380 =>
 next366 d372 left373 x380)) (
 Call (Ev_ref13_num d363) fun x383 =>
 Cat s296 x383 fun x385 =>
 next298 x385 left364))) (
 Q s296)))
theorem walk_ref13_decimal {a1 : GRat} {r : ByteArray} (h : W_ref13_decimal a1 (fun r' => r' = r)) : Ev_ref13_decimal a1 r := by
 unfold W_ref13_decimal at h
 refine intr (L := [(0, .dat (GRat.enc a1))]) Tryz.func67 Tryz.ntmps67 ?_
 refine sN (bx (v := .dat (.st _ _)) ?_)
 refine pG rfl (dn (AWp.seq (rN (pP rfl (pI rfl (pP rfl (pI rfl ?_)))))))
 obtain ⟨hq, h⟩ := h
 obtain ⟨x2, ex2, h⟩ := h.get
 refine AOps.q rfl rfl rfl rfl rfl (rbin_quo hq) ex2 ?_
 refine kC h rfl ⟨.inl rfl, trivial⟩ rfl fun x3 h => pG rfl ?_
 refine dn (sN (pP rfl (pI rfl (pP rfl (pI rfl ?_)))))
 obtain ⟨hq, h⟩ := h
 obtain ⟨x5, ex5, h⟩ := h.get
 refine AOps.q rfl rfl rfl rfl rfl (rbin_rem hq) ex5 ?_
 refine pI rfl (dn (AWp.seq (AWp.seq (rN (pI rfl (pB rfl (dn ?_)))))))
 obtain ⟨J394, h, hk395⟩ := h
 refine AWp.cutK (I := fun p : ByteArray => mkSt [(1, .pt 1 [] 0), (3, .dat (.v (.string p))), (4, .dat (.v (.int .i64 x5)))] [(1, .box 23 2 (.dat (GRat.enc a1)))]) (Inv := fun p : ByteArray => J394 p) ?_ (fun p hp => ?_)
 ·refine cB h (fun h => ?_) (fun h => ?_)
  ·refine rN (pG rfl (kc h rfl rfl rfl rfl fun x9 h => ?_))
   refine pG rfl (dn ?_)
   exact ⟨x9, h, sl⟩
  refine AWp.skip ?_
  exact ⟨x3, h, sl⟩
 replace h := hk395 p hp
 revert h; clear hp; generalize p = s7; intro h
 refine AWp.seq (AWp.block ?_)
 obtain ⟨I390, x391, hz392, hr393⟩ := h
 refine AWp.loop (I := fun p : ByteArray × Int => mkSt [(1, .pt 1 [] 0), (3, .dat (.v (.string p.1))), (4, .dat (.v (.int .i64 p.2)))] [(1, .box 23 2 (.dat (GRat.enc a1)))]) (Inv := fun p => I390 p.1 p.2) (μ := fun p => x391 p.1 p.2) (x0 := ⟨s7, x5⟩) hz392 sl (fun p hp => ?_)
 obtain ⟨s296, rest297⟩ := p
 have h := hr393 s296 rest297 hp
 refine AWp.seq (AWp.seq (rN (pI rfl (pB rfl (dn (cB h (fun h => ?_) (fun h => ?_)))))))
 ·refine AWp.skip (AWp.block (AWp.seq (rN (pI rfl (dn (AWp.seq (rN (pI rfl (dn (AWp.seq (AWp.seq (rN (pI rfl (dn (AWp.block ?_)))))))))))))))
  obtain ⟨I386, x387, hz388, hr389⟩ := h
  refine AWp.loop (I := fun p : Int × Int × Int => mkSt [(1, .pt 1 [] 0), (3, .dat (.v (.string s296))), (4, .dat (.v (.int .i64 rest297))), (5, .dat (.v (.int .i64 p.1))), (6, .dat (.v (.int .i64 p.2.1))), (7, .dat (.v (.int .i64 p.2.2)))] [(1, .box 23 2 (.dat (GRat.enc a1)))]) (Inv := fun p => I386 p.1 p.2.1 p.2.2) (μ := fun p => x387 p.1 p.2.1 p.2.2) (x0 := ⟨(0 : Int), (0 : Int), (0 : Int)⟩) hz388 sl (fun p hp => ?_)
  obtain ⟨d363, left364, i365⟩ := p
  have h := hr389 d363 left364 i365 hp
  refine AWp.seq (AWp.seq (rN (pI rfl (pB rfl (dn (cB h (fun h => ?_) (fun h => ?_)))))))
  ·refine AWp.skip (AWp.seq ?_)
   obtain ⟨J381, h, hk382⟩ := h
   refine AWp.cutK (I := fun p : Int × Int => mkSt [(1, .pt 1 [] 0), (3, .dat (.v (.string s296))), (4, .dat (.v (.int .i64 rest297))), (5, .dat (.v (.int .i64 p.1))), (6, .dat (.v (.int .i64 p.2))), (7, .dat (.v (.int .i64 i365)))] [(1, .box 23 2 (.dat (GRat.enc a1)))]) (Inv := fun p : Int × Int => J381 p.1 p.2) ?_ (fun p hp => ?_)
   ·refine AWp.block (AWp.seq (rN (pI rfl (pP rfl (pI rfl (pI rfl ?_))))))
    obtain ⟨x375, ex375, h⟩ := h.get
    refine ai ex375 rfl (pB rfl (dn (cB h (fun h => ?_) (fun h => ?_))))
    ·refine sN (pI rfl (pP rfl (pI rfl (pI rfl ?_))))
     obtain ⟨x376, ex376, h⟩ := h.get
     refine ai ex376 rfl ?_
     obtain ⟨x377, ex377, h⟩ := h.get
     refine ai ex377 rfl (pI rfl (dn (rN (pI rfl ?_))))
     obtain ⟨x378, ex378, h⟩ := h.get
     refine ai ex378 rfl (pI rfl (dn ?_))
     exact ⟨⟨x378, x377⟩, h, sl⟩
    refine rN (pI rfl (pI rfl ?_))
    obtain ⟨x379, ex379, h⟩ := h.get
    refine ai ex379 rfl (pI rfl (dn ?_))
    exact ⟨⟨d363, x379⟩, h, sl⟩
   obtain ⟨d372, left373⟩ := p
   replace h := hk382 d372 left373 hp
   refine rN (pI rfl ?_)
   obtain ⟨x380, ex380, h⟩ := h.get
   refine ai ex380 rfl (pI rfl (dn ?_))
   exact ⟨⟨d372, left373, x380⟩, h.1, h.2, sl⟩
  refine AWp.exit ?_
  refine sN (pG rfl (pI rfl (kC h rfl ⟨.inl rfl, trivial⟩ rfl fun x383 h => ?_)))
  refine kc h rfl rfl rfl rfl fun x385 h => pG rfl ?_
  refine dn (rN (pI rfl (pI rfl (dn ?_))))
  exact ⟨⟨x385, left364⟩, h.1, h.2, sl⟩
 refine AWp.exit ?_
 refine sN (pG rfl (pG rfl (dn (AWp.ret ?_))))
 subst h
 exact ⟨_, rfl, rfl⟩
def W_ref13_within (t1 : GTree) (Q : ByteArray -> Prop) : Prop :=
 Join1 (fun j3 =>
 Br (decide (t1.Kind >= (7 : Int))) (
 Br (decide (t1.Kind <= (12 : Int))) (j3 true) (
 Br (decide (t1.Kind >= (22 : Int))) (j3 (decide (t1.Kind <= (24 : Int)))) (
 j3 false))) (
 Br (decide (t1.Kind >= (22 : Int))) (j3 (decide (t1.Kind <= (24 : Int)))) (
 j3 false))
 ) (fun (x2 : Bool) =>
 Br x2 (
 Call (Ev_ref13_Text t1) fun x8 =>
 Cat (ByteArray.mk #[40]) x8 fun x10 =>
 Cat x10 (ByteArray.mk #[41]) fun x11 =>
 Q x11) (
 Call (Ev_ref13_Text t1) fun x12 =>
 Q x12))
theorem walk_ref13_within {t1 : GTree} {r : ByteArray} (h : W_ref13_within t1 (fun r' => r' = r)) : Ev_ref13_within t1 r := by
 unfold W_ref13_within at h
 refine intr (L := [(0, .dat (GTree.out t1))]) Tryz.func68 Tryz.ntmps68 ?_
 refine sN (bx (v := .dat (.st _ _)) ?_)
 refine pG rfl (dn (AWp.seq (AWp.seq ?_)))
 obtain ⟨J14, h, hk15⟩ := h
 refine AWp.cutK (I := fun p : Bool => mkSt [(1, .pt 1 [] 0), (20, .dat (.v (.bool p)))] [(1, .box 26 9 (.dat (GTree.out t1)))]) (Inv := fun p : Bool => J14 p) ?_ (fun p hp => ?_)
 ·refine rN (pP rfl (pI rfl (pB rfl (pB rfl (sB 6 h (fun h => ?_) (fun h => ?_))))))
  ·refine pP rfl (pI rfl (pB rfl (pB rfl (pB rfl (sB 11 h (fun h => ?_) (fun h => ?_))))))
   ·refine fo 8 rfl (pB rfl (dn ?_))
    exact ⟨true, h, sl⟩
   refine pP rfl (pI rfl (pB rfl (pB rfl (sB 15 h (fun h => ?_) (fun h => ?_)))))
   ·refine pP rfl (pI rfl (pB rfl (pB rfl (pB rfl (dn ?_)))))
    exact ⟨(decide (t1.Kind <= (24 : Int))), h, sl⟩
   refine fo 3 rfl (pB rfl (pB rfl (dn ?_)))
   exact ⟨false, h, sl⟩
  refine fo 3 rfl (pB rfl (pB rfl (pP rfl (pI rfl (pB rfl (pB rfl (sB 15 h (fun h => ?_) (fun h => ?_))))))))
  ·refine pP rfl (pI rfl (pB rfl (pB rfl (pB rfl (dn ?_)))))
   exact ⟨(decide (t1.Kind <= (24 : Int))), h, sl⟩
  refine fo 3 rfl (pB rfl (pB rfl (dn ?_)))
  exact ⟨false, h, sl⟩
 replace h := hk15 p hp
 revert h; clear hp; generalize p = x2; intro h
 refine cB h (fun h => ?_) (fun h => ?_)
 ·refine sN (pT rfl (kC h rfl ⟨.inl rfl, trivial⟩ rfl fun x8 h => ?_))
  refine kc h rfl rfl rfl rfl fun x10 h => kc h rfl rfl rfl rfl fun x11 h => pG rfl ?_
  subst h; exact dn (AWp.ret ⟨_, rfl, rfl⟩)
 refine AWp.skip (AWp.seq (rN (pT rfl (kC h rfl ⟨.inl rfl, trivial⟩ rfl fun x12 h => ?_))))
 refine pG rfl (dn (AWp.ret ?_))
 subst h
 exact ⟨_, rfl, rfl⟩
def W_strconv_FormatInt (i1 : Int) (base2 : Int) (Q : ByteArray -> Prop) : Prop :=
 Call (Ev_internal_strconv_FormatInt i1 base2) fun x3 =>
 Q x3
theorem walk_strconv_FormatInt {i1 : Int} {base2 : Int} {r : ByteArray} (h : W_strconv_FormatInt i1 base2 (fun r' => r' = r)) : Ev_strconv_FormatInt i1 base2 r := by
 unfold W_strconv_FormatInt at h
 refine intr (L := [(0, .dat (.v (.int .i64 i1))), (1, .dat (.v (.int .i64 base2)))]) Tryz.func94 Tryz.ntmps94 ?_
 refine sN (pG rfl (dn (AWp.seq (rN (pI rfl (pI rfl (kC h rfl ⟨.inl rfl, .inl rfl, trivial⟩ rfl fun x3 h => ?_)))))))
 refine pG rfl (dn (AWp.ret ?_))
 subst h
 exact ⟨_, rfl, rfl⟩
end Go.Sim.YtomeghkmdcfolaaGreatDoor
