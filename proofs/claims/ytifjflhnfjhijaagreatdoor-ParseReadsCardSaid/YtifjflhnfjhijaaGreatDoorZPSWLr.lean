/- What is proved: functions of the program compute what plain statements tell. -/
import Derived.Test.YtifjflhnfjhijaaGreatDoorZPSWE
import Derived.Test.YtifjflhnfjhijaaGreatDoorZPSWT

namespace Go.Sim.YtifjflhnfjhijaaGreatDoor
open Go.RowKit Go.Proofs Go.Proofs.Tryz
set_option maxRecDepth 100000
def qEg (x1 : ByteArray) (Q : (List GToken) × Int × Int -> Prop) : Prop :=
 Br (decide (((x1.size : Nat) : Int) > (20000 : Int))) (Q (([] : List GToken), (2 : Int), (0 : Int))) (
 Call (q5z x1 (0 : Int)) fun x2 =>
 Loop2 ([] : List GToken) x2 (fun (x987 : List GToken) (x988 : Int) next989 =>
 Br (decide (x988 < ((x1.size : Nat) : Int))) (
 Br (decide (((x987.length : Nat) : Int) >= (4000 : Int))) (Q (([] : List GToken), (2 : Int), x988)) (
 AtS x1 x988 fun x992 =>
 Call (q60 x992) fun x994 =>
 q3r (fun j1153 =>
 Br x994 (
 q16 (fun j1222 =>
 Loop1 x988 (fun (x1255 : Int) next1256 =>
 Br (decide (x1255 < ((x1.size : Nat) : Int))) (
 AtS x1 x1255 fun x1271 =>
 Call (q60 x1271) fun x1273 =>
 Br x1273 (
 Let (IntKind.i64.wrap (x1255 + (1 : Int))) fun x1275 =>
 next1256 x1275) (
 AtS x1 x1255 fun x1277 =>
 Call (q2c x1277) fun x1279 =>
 Br x1279 (
 Let (IntKind.i64.wrap (x1255 + (1 : Int))) fun x1281 =>
 next1256 x1281) (
 AtS x1 x1255 fun x1283 =>
 Br (x1283 == (95 : Int)) (
 Let (IntKind.i64.wrap (x1255 + (1 : Int))) fun x1285 =>
 next1256 x1285) (
 j1222 x1255)))) (
 j1222 x1255))
 ) (fun (x1221 : Int) =>
 Let (IntKind.i64.wrap (x1221 - x988)) fun x1290 =>
 Br (decide (x1290 > (24 : Int))) (Q (([] : List GToken), (2 : Int), x988)) (
 SlS x1 x988 x1221 fun x1291 =>
 Call (q61 x1291) fun x1292 =>
 Br x1292 (j1153 x1221 ({ GToken.zero with Kind := (2 : Int), S := x1291, At := x988 })) (
 j1153 x1221 ({ GToken.zero with Kind := (1 : Int), S := x1291, At := x988 }))))) (
 AtS x1 x988 fun x1297 =>
 Call (q2c x1297) fun x1299 =>
 Br x1299 (
 Call (q8r x1 x988) fun x1301 =>
 SlS x1 x988 x1301 fun x1303 =>
 Call (q8e x1303) fun x1304 =>
 Br (x1304.2 != (0 : Int)) (Q (([] : List GToken), x1304.2, x988)) (
 j1153 x1301 ({ GToken.zero with Kind := (3 : Int), Num := x1304.1, At := x988 }))) (
 Call (qAh x1 x988) fun x1306 =>
 Br (x1306 == x988) (Q (([] : List GToken), (120 : Int), x988)) (
 SlS x1 x988 x1306 fun x1308 =>
 j1153 x1306 ({ GToken.zero with Kind := (4 : Int), S := x1308, At := x988 }))))
 ) (fun (x1151 : Int) (x1152 : GToken) =>
 App 48 x987 ([x1152]) fun x1309 =>
 Call (q5z x1 x1151) fun x1310 =>
 next989 x1309 x1310))) (
 App 48 x987 ([({ GToken.zero with At := ((x1.size : Nat) : Int) })]) fun x1314 =>
 Q (x1314, (0 : Int), (0 : Int)))))
theorem qK7 {x1 : ByteArray} {r : (List GToken) × Int × Int} (h : qEg x1 (fun r' => r' = r)) : q9b x1 r := by
 unfold qEg at h
 refine intr (L := [(0, .dat (.v (.string x1)))]) Tryz.func12 Tryz.ntmps12 ?_
 refine sN (pS rfl (pI rfl (pI rfl (dn (AWp.seq (AWp.seq (rN (pG rfl (pI rfl (pB rfl (dn (cB h (fun h => ?_) (fun h => ?_)))))))))))))
 ·refine sN (pS rfl (pI rfl (pI rfl (dn (AWp.ret ?_)))))
  subst h
  exact ⟨_, rfl, rfl⟩
 refine AWp.skip (AWp.seq (rN ?_))
 refine AOps.litown q01 (ys := []) rfl rfl rfl rfl rfl rfl rfl rfl ?_
 refine pO rfl (dn (AWp.seq (rN (pG rfl (kC h rfl ⟨.inl rfl, .inl rfl, trivial⟩ rfl fun x2 h => ?_)))))
 refine pI rfl (dn (AWp.seq (AWp.block ?_)))
 obtain ⟨I1315, x1316, hz1317, hr1318⟩ := h
 refine AWp.loop (I := fun p : (List GToken) × Int => mkSt [(0, .dat (.v (.string x1))), (5, .oref 1005), (6, .dat (.v (.int .i64 p.2)))] [(1005, .row 52 5 (List.map GToken.enc p.1))]) (Inv := fun p => I1315 p.1 p.2) (μ := fun p => x1316 p.1 p.2) (x0 := ⟨([] : List GToken), x2⟩) hz1317 (slf (fun i => (if Nat.beq i 1005 then 14 else i))) (fun p hp => ?_)
 obtain ⟨x987, x988⟩ := p
 have h := hr1318 x987 x988 hp
 refine AWp.seq (AWp.seq (rN (pI rfl (pG rfl (pI rfl (pB rfl (dn (cB h (fun h => ?_) (fun h => ?_)))))))))
 ·refine AWp.skip (AWp.block (AWp.seq (AWp.seq (rN (pO rfl (al (((x987.length : Nat) : Int)) rfl (pB rfl (dn (cB h (fun h => ?_) (fun h => ?_))))))))))
  ·refine sN (pI rfl (pS rfl (pI rfl (pI rfl (dn (AWp.ret ?_))))))
   subst h
   exact ⟨_, rfl, rfl⟩
  refine AWp.skip (AWp.seq (rN (pI rfl (pI rfl (dn (AWp.seq (rW (pI rfl (pT rfl (al0 ?_))))))))))
  refine st (v := .dat (.st _ _)) ?_
  refine dn (AWp.seq (AWp.seq (rN (pG rfl (pI rfl ?_)))))
  obtain ⟨hi991, x992, hx993, h⟩ := AtS.get h
  refine AOps.sidxE q01 rfl rfl rfl rfl rfl rfl rfl hi991 hx993 ?_
  refine kC h rfl ⟨.inl rfl, trivial⟩ rfl fun x994 h => dn ?_
  obtain ⟨J1312, h, hk1313⟩ := h
  refine AWp.cutK (I := fun p : Int × GToken => mkSt [(0, .dat (.v (.string x1))), (5, .oref 1005), (7, .dat (.v (.int .i64 p.1))), (8, .pt 8 [] 0)] [(8, .box 52 5 (.dat (GToken.enc p.2))), (1005, .row 52 5 (List.map GToken.enc x987))]) (Inv := fun p : Int × GToken => J1312 p.1 p.2) ?_ (fun p hp => ?_)
  ·refine cB h (fun h => ?_) (fun h => ?_)
   ·refine AWp.seq ?_
    obtain ⟨J1294, h, hk1295⟩ := h
    refine AWp.cutK (I := fun p : Int => mkSt [(0, .dat (.v (.string x1))), (5, .oref 1005), (6, .dat (.v (.int .i64 x988))), (7, .dat (.v (.int .i64 p))), (8, .pt 8 [] 0)] [(8, .box 52 5 (.dat (GToken.enc ({ GToken.zero with At := x988 })))), (1005, .row 52 5 (List.map GToken.enc x987))]) (Inv := fun p : Int => J1294 p) ?_ (fun p hp => ?_)
    ·refine AWp.block ?_
     obtain ⟨I1286, x1287, hz1288, hr1289⟩ := h
     refine AWp.loop (I := fun p : Int => mkSt [(0, .dat (.v (.string x1))), (5, .oref 1005), (6, .dat (.v (.int .i64 x988))), (7, .dat (.v (.int .i64 p))), (8, .pt 8 [] 0)] [(8, .box 52 5 (.dat (GToken.enc ({ GToken.zero with At := x988 })))), (1005, .row 52 5 (List.map GToken.enc x987))]) (Inv := fun p => I1286 p) (μ := fun p => x1287 p) (x0 := x988) hz1288 sl (fun p hp => ?_)
     have h := hr1289 p hp
     revert h; clear hp; generalize p = x1255; intro h
     refine AWp.seq (AWp.seq (rN (pI rfl (pG rfl (pI rfl (pB rfl (pB rfl (sB 36 h (fun h => ?_) (fun h => ?_)))))))))
     ·refine pG rfl (pI rfl ?_)
      obtain ⟨hi1270, x1271, hx1272, h⟩ := AtS.get h
      refine AOps.sidxE q01 rfl rfl rfl rfl rfl rfl rfl hi1270 hx1272 ?_
      refine kC h rfl ⟨.inl rfl, trivial⟩ rfl fun x1273 h => pB rfl ?_
      refine sB 41 h (fun h => ?_) (fun h => ?_)
      ·refine fo 4 rfl (pB rfl (pB rfl (fo 4 rfl (pB rfl (pB rfl (dn ?_))))))
       refine AWp.condT rfl ?_
       refine AWp.skip (AWp.block (rN (pI rfl ?_)))
       obtain ⟨x1275, ex1275, h⟩ := h.get
       refine ai ex1275 rfl (pI rfl (dn ?_))
       exact ⟨x1275, h.1, h.2, sl⟩
      refine pG rfl (pI rfl ?_)
      obtain ⟨hi1276, x1277, hx1278, h⟩ := AtS.get h
      refine AOps.sidxE q01 rfl rfl rfl rfl rfl rfl rfl hi1276 hx1278 ?_
      refine kC h rfl ⟨.inl rfl, trivial⟩ rfl fun x1279 h => pB rfl ?_
      refine pB rfl (sB 47 h (fun h => ?_) (fun h => ?_))
      ·refine fo 4 rfl (pB rfl (pB rfl (dn ?_)))
       refine AWp.condT rfl ?_
       refine AWp.skip (AWp.block (rN (pI rfl ?_)))
       obtain ⟨x1281, ex1281, h⟩ := h.get
       refine ai ex1281 rfl (pI rfl (dn ?_))
       exact ⟨x1281, h.1, h.2, sl⟩
      refine pG rfl (pI rfl ?_)
      obtain ⟨hi1282, x1283, hx1284, h⟩ := AtS.get h
      refine AOps.sidxE q01 rfl rfl rfl rfl rfl rfl rfl hi1282 hx1284 ?_
      refine pB rfl (pB rfl (pB rfl (dn (cB h (fun h => ?_) (fun h => ?_)))))
      ·refine AWp.skip (AWp.block (rN (pI rfl ?_)))
       obtain ⟨x1285, ex1285, h⟩ := h.get
       refine ai ex1285 rfl (pI rfl (dn ?_))
       exact ⟨x1285, h.1, h.2, sl⟩
      refine AWp.exit ?_
      exact ⟨x1255, h, sl⟩
     refine fo 16 rfl (pB rfl (dn ?_))
     refine AWp.condF rfl ?_
     refine AWp.exit ?_
     exact ⟨x1255, h, sl⟩
    replace h := hk1295 p hp
    revert h; clear hp; generalize p = x1221; intro h
    refine AWp.seq (AWp.seq (rN (pI rfl (pI rfl ?_))))
    obtain ⟨x1290, ex1290, h⟩ := h.get
    refine ai ex1290 rfl (pB rfl (dn (cB h (fun h => ?_) (fun h => ?_))))
    ·refine sN (pI rfl (pS rfl (pI rfl (pI rfl (dn (AWp.ret ?_))))))
     subst h
     exact ⟨_, rfl, rfl⟩
    refine AWp.skip (AWp.seq (rW (pG rfl (pI rfl (pI rfl ?_)))))
    obtain ⟨h1, h2, h3, x1291, ex1291, h⟩ := h.get
    refine AOps.sls q01 rfl rfl rfl rfl rfl rfl rfl rfl h1 h2 h3 ex1291 ?_
    refine pP rfl (st (v := .dat (.v (.string _))) ?_)
    refine dn (sW (pP rfl (st (v := .dat (.v (.int _ _))) ?_)))
    refine dn (sN (pP rfl (pG rfl (kC h rfl ⟨.inl rfl, trivial⟩ rfl fun x1292 h => ?_))))
    refine dn (cB h (fun h => ?_) (fun h => ?_))
    ·refine rW (pP rfl (st (v := .dat (.v (.int _ _))) ?_))
     refine dn ?_
     exact ⟨⟨x1221, ({ GToken.zero with Kind := (2 : Int), S := x1291, At := x988 })⟩, h, sl⟩
    refine AWp.skip ?_
    exact ⟨⟨x1221, ({ GToken.zero with Kind := (1 : Int), S := x1291, At := x988 })⟩, h, sl⟩
   refine sN (pG rfl (pI rfl ?_))
   obtain ⟨hi1296, x1297, hx1298, h⟩ := AtS.get h
   refine AOps.sidxE q01 rfl rfl rfl rfl rfl rfl rfl hi1296 hx1298 ?_
   refine kC h rfl ⟨.inl rfl, trivial⟩ rfl fun x1299 h => dn ?_
   refine cB h (fun h => ?_) (fun h => ?_)
   ·refine sN (pG rfl (pI rfl (kC h rfl ⟨.inl rfl, .inl rfl, trivial⟩ rfl fun x1301 h => ?_)))
    refine pI rfl (dn (AWp.seq (rW (pG rfl (pI rfl (pI rfl ?_))))))
    obtain ⟨h1, h2, h3, x1303, ex1303, h⟩ := h.get
    refine AOps.sls q01 rfl rfl rfl rfl rfl rfl rfl rfl h1 h2 h3 ex1303 ?_
    refine kC h rfl ⟨.inl rfl, trivial⟩ rfl fun x1304 h => pU rfl ?_
    refine pT rfl (pI rfl (al0 ?_))
    refine st (v := .dat (.st _ _)) ?_
    refine pI rfl (dn (AWp.seq (AWp.seq (rN (pI rfl (pB rfl (dn (cB h (fun h => ?_) (fun h => ?_)))))))))
    ·refine sN (pI rfl (pI rfl (pS rfl (pI rfl (pI rfl (dn (AWp.ret ?_)))))))
     subst h
     exact ⟨_, rfl, rfl⟩
    refine AWp.skip (AWp.seq (rW (pP rfl (st (v := .dat (.v (.int _ _))) ?_))))
    refine dn (rW (pT rfl (pP rfl (st (v := .dat (.st _ _)) ?_))))
    refine dn ?_
    exact ⟨⟨x1301, ({ GToken.zero with Kind := (3 : Int), Num := x1304.1, At := x988 })⟩, h, sl⟩
   refine sN (pG rfl (pI rfl (kC h rfl ⟨.inl rfl, .inl rfl, trivial⟩ rfl fun x1306 h => ?_)))
   refine pI rfl (dn (AWp.seq (AWp.seq (rN (pI rfl (pI rfl (pB rfl (dn (cB h (fun h => ?_) (fun h => ?_))))))))))
   ·refine sN (pI rfl (pS rfl (pI rfl (pI rfl (dn (AWp.ret ?_))))))
    subst h
    exact ⟨_, rfl, rfl⟩
   refine AWp.skip (AWp.seq (rW (pP rfl (st (v := .dat (.v (.int _ _))) ?_))))
   refine dn (rW (pG rfl (pI rfl (pI rfl ?_))))
   obtain ⟨h1, h2, h3, x1308, ex1308, h⟩ := h.get
   refine AOps.sls q01 rfl rfl rfl rfl rfl rfl rfl rfl h1 h2 h3 ex1308 ?_
   refine pP rfl (st (v := .dat (.v (.string _))) ?_)
   refine dn ?_
   exact ⟨⟨x1306, ({ GToken.zero with Kind := (4 : Int), S := x1308, At := x988 })⟩, h, sl⟩
  obtain ⟨x1151, x1152⟩ := p
  replace h := hk1313 x1151 x1152 hp
  refine sW (pO rfl (pT rfl ?_))
  refine AOps.lit q01 (ys := [GToken.enc x1152]) rfl rfl rfl rfl rfl rfl ?_
  obtain ⟨h1, h2, x1309, ex1309, h⟩ := h.get
  refine AOps.append q01 rfl rfl rfl rfl rfl rfl rfl rfl rfl rfl rfl (.inl ⟨_, rfl⟩) (app1 h1) (app2 h2) (app3 ex1309) ?_
  refine pO rfl (dn (rN (pG rfl (pI rfl (kC h rfl ⟨.inl rfl, .inl rfl, trivial⟩ rfl fun x1310 h => ?_)))))
  refine pI rfl (dn ?_)
  exact ⟨⟨x1309, x1310⟩, h.1, h.2, (slf (fun i => (if Nat.beq i 1005 then 109 else i)))⟩
 refine AWp.exit ?_
 refine sW (pO rfl (pG rfl (pI rfl (pT rfl ?_))))
 refine AOps.lit q01 (ys := [GToken.enc ({ GToken.zero with At := ((x1.size : Nat) : Int) })]) rfl rfl rfl rfl rfl rfl ?_
 obtain ⟨h1, h2, x1314, ex1314, h⟩ := h.get
 refine AOps.append q01 rfl rfl rfl rfl rfl rfl rfl rfl rfl rfl rfl (.inl ⟨_, rfl⟩) (app1 h1) (app2 h2) (app3 ex1314) ?_
 refine pO rfl (dn (AWp.seq (rN (pO rfl (pO rfl (pI rfl (pI rfl (dn (AWp.ret ?_)))))))))
 subst h
 exact ⟨_, rfl, rfl⟩
def q9u (s1 : ByteArray) (at2 : Int) (Q : Int -> Prop) : Prop :=
 Loop1 at2 (fun (at128 : Int) next129 =>
 Br (decide (at128 < ((s1.size : Nat) : Int))) (
 AtS s1 at128 fun x131 =>
 Br (x131 == (32 : Int)) (
 Let (IntKind.i64.wrap (at128 + (1 : Int))) fun x133 =>
 next129 x133) (
 Br (x131 == (9 : Int)) (
 Let (IntKind.i64.wrap (at128 + (1 : Int))) fun x134 =>
 next129 x134) (
 Br (x131 == (10 : Int)) (
 Let (IntKind.i64.wrap (at128 + (1 : Int))) fun x135 =>
 next129 x135) (
 Br (x131 == (13 : Int)) (
 Let (IntKind.i64.wrap (at128 + (1 : Int))) fun x137 =>
 next129 x137) (
 Br (x131 != (47 : Int)) (Q at128) (
 Let (IntKind.i64.wrap (at128 + (1 : Int))) fun x143 =>
 Br (decide (x143 >= ((s1.size : Nat) : Int))) (Q at128) (
 Let (IntKind.i64.wrap (at128 + (1 : Int))) fun x144 =>
 AtS s1 x144 fun x146 =>
 Br (x146 != (47 : Int)) (Q at128) (
 Loop1 at128 (fun (at156 : Int) next157 =>
 Br (decide (at156 < ((s1.size : Nat) : Int))) (
 AtS s1 at156 fun x162 =>
 Br (x162 != (10 : Int)) (
 Let (IntKind.i64.wrap (at156 + (1 : Int))) fun x164 =>
 next157 x164) (
 next129 at156)) (
 next129 at156)))))))))) (
 Q at128))
theorem qG9 {s1 : ByteArray} {at2 : Int} {r : Int} (h : q9u s1 at2 (fun r' => r' = r)) : q5z s1 at2 r := by
 unfold q9u at h
 refine intr (L := [(0, .dat (.v (.string s1))), (1, .dat (.v (.int .i64 at2)))]) Tryz.func28 Tryz.ntmps28 ?_
 refine sN (pI rfl (dn (AWp.seq (AWp.block ?_))))
 obtain ⟨I169, x170, hz171, hr172⟩ := h
 refine AWp.loop (I := fun p : Int => mkSt [(0, .dat (.v (.string s1))), (1, .dat (.v (.int .i64 p)))] []) (Inv := fun p => I169 p) (μ := fun p => x170 p) (x0 := at2) hz171 sl (fun p hp => ?_)
 have h := hr172 p hp
 revert h; clear hp; generalize p = at128; intro h
 refine AWp.seq (AWp.seq (rN (pI rfl (pG rfl (pI rfl (pB rfl (dn (cB h (fun h => ?_) (fun h => ?_)))))))))
 ·refine AWp.skip (AWp.block (AWp.seq (rN (pG rfl (pI rfl ?_)))))
  obtain ⟨hi130, x131, hx132, h⟩ := AtS.get h
  refine AOps.sidxE q01 rfl rfl rfl rfl rfl rfl rfl hi130 hx132 ?_
  refine pI rfl (dn (AWp.seq (AWp.seq (rN (pI rfl (pB rfl (pB rfl (sB 15 h (fun h => ?_) (fun h => ?_)))))))))
  ·refine ff rfl (ff rfl (pB rfl (pB rfl (ff rfl (ff rfl (pB rfl (pB rfl (ff rfl (ff rfl (pB rfl (dn ?_)))))))))))
   refine AWp.condT rfl ?_
   refine sN (pI rfl ?_)
   obtain ⟨x133, ex133, h⟩ := h.get
   refine ai ex133 rfl (pI rfl (dn ?_))
   refine AWp.exit ?_
   exact ⟨x133, h.1, h.2, sl⟩
  refine pI rfl (pB rfl (pB rfl (pB rfl (sB 19 h (fun h => ?_) (fun h => ?_)))))
  ·refine ff rfl (ff rfl (pB rfl (pB rfl (ff rfl (ff rfl (pB rfl (dn ?_)))))))
   refine AWp.condT rfl ?_
   refine sN (pI rfl ?_)
   obtain ⟨x134, ex134, h⟩ := h.get
   refine ai ex134 rfl (pI rfl (dn ?_))
   refine AWp.exit ?_
   exact ⟨x134, h.1, h.2, sl⟩
  refine pI rfl (pB rfl (pB rfl (pB rfl (sB 23 h (fun h => ?_) (fun h => ?_)))))
  ·refine ff rfl (ff rfl (pB rfl (dn ?_)))
   refine AWp.condT rfl ?_
   refine sN (pI rfl ?_)
   obtain ⟨x135, ex135, h⟩ := h.get
   refine ai ex135 rfl (pI rfl (dn ?_))
   refine AWp.exit ?_
   exact ⟨x135, h.1, h.2, sl⟩
  refine pI rfl (pB rfl (pB rfl (dn (cB h (fun h => ?_) (fun h => ?_)))))
  ·refine sN (pI rfl ?_)
   obtain ⟨x137, ex137, h⟩ := h.get
   refine ai ex137 rfl (pI rfl (dn ?_))
   refine AWp.exit ?_
   exact ⟨x137, h.1, h.2, sl⟩
  refine AWp.skip (AWp.seq (AWp.seq (rN (pI rfl (pB rfl (pB rfl (sB 31 h (fun h => ?_) (fun h => ?_))))))))
  ·refine fo 5 rfl (pB rfl (pB rfl (fo 5 rfl (pB rfl (dn ?_)))))
   refine AWp.condT rfl ?_
   refine sN (pI rfl (pI rfl (dn (AWp.ret ?_))))
   subst h
   exact ⟨_, rfl, rfl⟩
  refine pI rfl ?_
  obtain ⟨x143, ex143, h⟩ := h.get
  refine ai ex143 rfl (pG rfl (pI rfl (pB rfl (pB rfl (pB rfl (sB 38 h (fun h => ?_) (fun h => ?_)))))))
  ·refine fo 5 rfl (pB rfl (dn ?_))
   refine AWp.condT rfl ?_
   refine sN (pI rfl (pI rfl (dn (AWp.ret ?_))))
   subst h
   exact ⟨_, rfl, rfl⟩
  refine pG rfl (pI rfl ?_)
  obtain ⟨x144, ex144, h⟩ := h.get
  refine ai ex144 rfl ?_
  obtain ⟨hi145, x146, hx147, h⟩ := AtS.get h
  refine AOps.sidxE q01 rfl rfl rfl rfl rfl rfl rfl hi145 hx147 ?_
  refine pB rfl (pB rfl (dn (cB h (fun h => ?_) (fun h => ?_))))
  ·refine sN (pI rfl (pI rfl (dn (AWp.ret ?_))))
   subst h
   exact ⟨_, rfl, rfl⟩
  refine AWp.skip (AWp.block ?_)
  obtain ⟨I165, x166, hz167, hr168⟩ := h
  refine AWp.loop (I := fun p : Int => mkSt [(0, .dat (.v (.string s1))), (1, .dat (.v (.int .i64 p)))] []) (Inv := fun p => I165 p) (μ := fun p => x166 p) (x0 := at128) hz167 sl (fun p hp => ?_)
  have h := hr168 p hp
  revert h; clear hp; generalize p = at156; intro h
  refine AWp.seq (AWp.seq (rN (pI rfl (pG rfl (pI rfl (pB rfl (pB rfl (sB 50 h (fun h => ?_) (fun h => ?_)))))))))
  ·refine pG rfl (pI rfl ?_)
   obtain ⟨hi161, x162, hx163, h⟩ := AtS.get h
   refine AOps.sidxE q01 rfl rfl rfl rfl rfl rfl rfl hi161 hx163 ?_
   refine pB rfl (pB rfl (dn (cB h (fun h => ?_) (fun h => ?_))))
   ·refine AWp.skip (AWp.block (rN (pI rfl ?_)))
    obtain ⟨x164, ex164, h⟩ := h.get
    refine ai ex164 rfl (pI rfl (dn ?_))
    exact ⟨x164, h.1, h.2, sl⟩
   refine AWp.exit ?_
   exact ⟨at156, h.1, h.2, sl⟩
  refine fo 4 rfl (pB rfl (dn ?_))
  refine AWp.condF rfl ?_
  refine AWp.exit ?_
  exact ⟨at156, h.1, h.2, sl⟩
 refine AWp.exit ?_
 refine sN (pI rfl (pI rfl (dn (AWp.ret ?_))))
 subst h
 exact ⟨_, rfl, rfl⟩
def q9v (x1 : ByteArray) (x2 : Int) (Q : Int -> Prop) : Prop :=
 Call (q3z x1 x2) fun x3 =>
 q16 (fun j16 =>
 Let (IntKind.i64.wrap (x3 + (1 : Int))) fun x17 =>
 Br (decide (x17 < ((x1.size : Nat) : Int))) (
 AtS x1 x3 fun x19 =>
 Br (x19 == (46 : Int)) (
 Let (IntKind.i64.wrap (x3 + (1 : Int))) fun x21 =>
 AtS x1 x21 fun x23 =>
 Call (q2c x23) fun x25 =>
 j16 x25) (
 j16 false)) (
 j16 false)
 ) (fun (x15 : Bool) =>
 q16 (fun j31 =>
 Br x15 (
 Let (IntKind.i64.wrap (x3 + (1 : Int))) fun x32 =>
 Call (q3z x1 x32) fun x33 =>
 j31 x33) (
 j31 x3)
 ) (fun (x30 : Int) =>
 q16 (fun j42 =>
 Br (decide (x30 < ((x1.size : Nat) : Int))) (
 AtS x1 x30 fun x44 =>
 Br (x44 == (101 : Int)) (j42 true) (
 AtS x1 x30 fun x47 =>
 j42 (x47 == (69 : Int)))) (
 j42 false)
 ) (fun (x41 : Bool) =>
 Br x41 (
 Let (IntKind.i64.wrap (x30 + (1 : Int))) fun x84 =>
 q16 (fun j92 =>
 Br (decide (x84 < ((x1.size : Nat) : Int))) (
 AtS x1 x84 fun x94 =>
 Br (x94 == (43 : Int)) (j92 true) (
 AtS x1 x84 fun x97 =>
 j92 (x97 == (45 : Int)))) (
 j92 false)
 ) (fun (x91 : Bool) =>
 q16 (fun j101 =>
 Br x91 (
 Let (IntKind.i64.wrap (x84 + (1 : Int))) fun x102 =>
 j101 x102) (
 j101 x84)
 ) (fun (x100 : Int) =>
 Br (decide (x100 < ((x1.size : Nat) : Int))) (
 AtS x1 x100 fun x109 =>
 Call (q2c x109) fun x111 =>
 Br x111 (
 Call (q3z x1 x100) fun x115 =>
 Q x115) (
 Q x30)) (
 Q x30)))) (
 Q x30))))
theorem qGa {x1 : ByteArray} {x2 : Int} {r : Int} (h : q9v x1 x2 (fun r' => r' = r)) : q8r x1 x2 r := by
 unfold q9v at h
 refine intr (L := [(0, .dat (.v (.string x1))), (1, .dat (.v (.int .i64 x2)))]) Tryz.func32 Tryz.ntmps32 ?_
 refine sN (pI rfl (dn (AWp.seq (rN (pG rfl (pI rfl (kC h rfl ⟨.inl rfl, .inl rfl, trivial⟩ rfl fun x3 h => ?_)))))))
 refine pI rfl (dn (AWp.seq (AWp.seq ?_)))
 obtain ⟨J125, h, hk126⟩ := h
 refine AWp.cutK (I := fun p : Bool => mkSt [(0, .dat (.v (.string x1))), (5, .dat (.v (.int .i64 x3))), (27, .dat (.v (.bool p)))] []) (Inv := fun p : Bool => J125 p) ?_ (fun p hp => ?_)
 ·refine rN (pI rfl ?_)
  obtain ⟨x17, ex17, h⟩ := h.get
  refine ai ex17 rfl (pG rfl (pI rfl (pB rfl (pB rfl (sB 15 h (fun h => ?_) (fun h => ?_))))))
  ·refine pG rfl (pI rfl ?_)
   obtain ⟨hi18, x19, hx20, h⟩ := AtS.get h
   refine AOps.sidxE q01 rfl rfl rfl rfl rfl rfl rfl hi18 hx20 ?_
   refine pB rfl (pB rfl (pB rfl (sB 21 h (fun h => ?_) (fun h => ?_))))
   ·refine pG rfl (pI rfl ?_)
    obtain ⟨x21, ex21, h⟩ := h.get
    refine ai ex21 rfl ?_
    obtain ⟨hi22, x23, hx24, h⟩ := AtS.get h
    refine AOps.sidxE q01 rfl rfl rfl rfl rfl rfl rfl hi22 hx24 ?_
    refine kC h rfl ⟨.inl rfl, trivial⟩ rfl fun x25 h => pB rfl ?_
    refine dn ?_
    exact ⟨x25, h, sl⟩
   refine fo 5 rfl (pB rfl (dn ?_))
   exact ⟨false, h, sl⟩
  refine fo 4 rfl (pB rfl (pB rfl (fo 5 rfl (pB rfl (dn ?_)))))
  exact ⟨false, h, sl⟩
 replace h := hk126 p hp
 revert h; clear hp; generalize p = x15; intro h
 obtain ⟨J123, h, hk124⟩ := h
 refine AWp.cutK (I := fun p : Int => mkSt [(0, .dat (.v (.string x1))), (5, .dat (.v (.int .i64 p)))] []) (Inv := fun p : Int => J123 p) ?_ (fun p hp => ?_)
 ·refine cB h (fun h => ?_) (fun h => ?_)
  ·refine rN (pG rfl (pI rfl ?_))
   obtain ⟨x32, ex32, h⟩ := h.get
   refine ai ex32 rfl (kC h rfl ⟨.inl rfl, .inl rfl, trivial⟩ rfl fun x33 h => ?_)
   refine pI rfl (dn ?_)
   exact ⟨x33, h, sl⟩
  refine AWp.skip ?_
  exact ⟨x3, h, sl⟩
 replace h := hk124 p hp
 revert h; clear hp; generalize p = x30; intro h
 refine AWp.seq (AWp.seq ?_)
 obtain ⟨J121, h, hk122⟩ := h
 refine AWp.cutK (I := fun p : Bool => mkSt [(0, .dat (.v (.string x1))), (5, .dat (.v (.int .i64 x30))), (47, .dat (.v (.bool p)))] []) (Inv := fun p : Bool => J121 p) ?_ (fun p hp => ?_)
 ·refine rN (pI rfl (pG rfl (pI rfl (pB rfl (pB rfl (sB 36 h (fun h => ?_) (fun h => ?_)))))))
  ·refine pG rfl (pI rfl ?_)
   obtain ⟨hi43, x44, hx45, h⟩ := AtS.get h
   refine AOps.sidxE q01 rfl rfl rfl rfl rfl rfl rfl hi43 hx45 ?_
   refine pB rfl (pB rfl (sB 41 h (fun h => ?_) (fun h => ?_)))
   ·refine fo 4 rfl (pB rfl (pB rfl (dn ?_)))
    exact ⟨true, h, sl⟩
   refine pG rfl (pI rfl ?_)
   obtain ⟨hi46, x47, hx48, h⟩ := AtS.get h
   refine AOps.sidxE q01 rfl rfl rfl rfl rfl rfl rfl hi46 hx48 ?_
   refine pB rfl (pB rfl (pB rfl (dn ?_)))
   exact ⟨(x47 == (69 : Int)), h, sl⟩
  refine fo 10 rfl (pB rfl (dn ?_))
  exact ⟨false, h, sl⟩
 replace h := hk122 p hp
 revert h; clear hp; generalize p = x41; intro h
 refine cB h (fun h => ?_) (fun h => ?_)
 ·refine sN (pI rfl ?_)
  obtain ⟨x84, ex84, h⟩ := h.get
  refine ai ex84 rfl (pI rfl (dn (AWp.seq (AWp.seq ?_))))
  obtain ⟨J119, h, hk120⟩ := h
  refine AWp.cutK (I := fun p : Bool => mkSt [(0, .dat (.v (.string x1))), (5, .dat (.v (.int .i64 x30))), (6, .dat (.v (.int .i64 x84))), (65, .dat (.v (.bool p)))] []) (Inv := fun p : Bool => J119 p) ?_ (fun p hp => ?_)
  ·refine rN (pI rfl (pG rfl (pI rfl (pB rfl (pB rfl (sB 54 h (fun h => ?_) (fun h => ?_)))))))
   ·refine pG rfl (pI rfl ?_)
    obtain ⟨hi93, x94, hx95, h⟩ := AtS.get h
    refine AOps.sidxE q01 rfl rfl rfl rfl rfl rfl rfl hi93 hx95 ?_
    refine pB rfl (pB rfl (sB 59 h (fun h => ?_) (fun h => ?_)))
    ·refine fo 4 rfl (pB rfl (pB rfl (dn ?_)))
     exact ⟨true, h, sl⟩
    refine pG rfl (pI rfl ?_)
    obtain ⟨hi96, x97, hx98, h⟩ := AtS.get h
    refine AOps.sidxE q01 rfl rfl rfl rfl rfl rfl rfl hi96 hx98 ?_
    refine pB rfl (pB rfl (pB rfl (dn ?_)))
    exact ⟨(x97 == (45 : Int)), h, sl⟩
   refine fo 10 rfl (pB rfl (dn ?_))
   exact ⟨false, h, sl⟩
  replace h := hk120 p hp
  revert h; clear hp; generalize p = x91; intro h
  obtain ⟨J117, h, hk118⟩ := h
  refine AWp.cutK (I := fun p : Int => mkSt [(0, .dat (.v (.string x1))), (5, .dat (.v (.int .i64 x30))), (6, .dat (.v (.int .i64 p)))] []) (Inv := fun p : Int => J117 p) ?_ (fun p hp => ?_)
  ·refine cB h (fun h => ?_) (fun h => ?_)
   ·refine rN (pI rfl ?_)
    obtain ⟨x102, ex102, h⟩ := h.get
    refine ai ex102 rfl (pI rfl (dn ?_))
    exact ⟨x102, h, sl⟩
   refine AWp.skip ?_
   exact ⟨x84, h, sl⟩
  replace h := hk118 p hp
  revert h; clear hp; generalize p = x100; intro h
  refine sN (pI rfl (pG rfl (pI rfl (pB rfl (pB rfl (sB 72 h (fun h => ?_) (fun h => ?_)))))))
  ·refine pG rfl (pI rfl ?_)
   obtain ⟨hi108, x109, hx110, h⟩ := AtS.get h
   refine AOps.sidxE q01 rfl rfl rfl rfl rfl rfl rfl hi108 hx110 ?_
   refine kC h rfl ⟨.inl rfl, trivial⟩ rfl fun x111 h => pB rfl ?_
   refine dn (cB h (fun h => ?_) (fun h => ?_))
   ·refine rN (pG rfl (pI rfl (kC h rfl ⟨.inl rfl, .inl rfl, trivial⟩ rfl fun x115 h => ?_)))
    refine pI rfl (dn (AWp.seq (rN (pI rfl (pI rfl (dn (AWp.ret ?_)))))))
    subst h
    exact ⟨_, rfl, rfl⟩
   refine AWp.skip (AWp.seq (rN (pI rfl (pI rfl (dn (AWp.ret ?_))))))
   subst h
   exact ⟨_, rfl, rfl⟩
  refine fo 4 rfl (pB rfl (dn ?_))
  refine AWp.condF rfl ?_
  refine AWp.skip (AWp.seq (rN (pI rfl (pI rfl (dn (AWp.ret ?_))))))
  subst h
  exact ⟨_, rfl, rfl⟩
 refine AWp.skip (AWp.seq (rN (pI rfl (pI rfl (dn (AWp.ret ?_))))))
 subst h
 exact ⟨_, rfl, rfl⟩
def qCy (s1 : ByteArray) (at2 : Int) (Q : Int -> Prop) : Prop :=
 q16 (fun j7 =>
 Let (IntKind.i64.wrap (at2 + (1 : Int))) fun x8 =>
 Br (decide (x8 < ((s1.size : Nat) : Int))) (
 Let (IntKind.i64.wrap (at2 + (2 : Int))) fun x9 =>
 SlS s1 at2 x9 fun x10 =>
 j7 (x10.toList == (ByteArray.mk #[46, 46]).toList)) (
 j7 false)
 ) (fun (x6 : Bool) =>
 Br x6 (
 Let (IntKind.i64.wrap (at2 + (2 : Int))) fun x12 =>
 Q x12) (
 Loop1 (0 : Int) (fun (x67 : Int) next68 =>
 Br (decide (x67 < ((([(40 : Int), (41 : Int), (91 : Int), (93 : Int), (44 : Int), (59 : Int), (58 : Int), (46 : Int), (61 : Int), (43 : Int), (45 : Int), (42 : Int), (47 : Int), (94 : Int)]).length : Nat) : Int))) (
 At ([(40 : Int), (41 : Int), (91 : Int), (93 : Int), (44 : Int), (59 : Int), (58 : Int), (46 : Int), (61 : Int), (43 : Int), (45 : Int), (42 : Int), (47 : Int), (94 : Int)]) x67 fun x77 =>
 AtS s1 at2 fun x80 =>
 Br (x77 == x80) (
 Let (IntKind.i64.wrap (at2 + (1 : Int))) fun x82 =>
 Q x82) (
 Let (IntKind.i64.wrap (x67 + (1 : Int))) fun x83 =>
 next68 x83)) (
 Q at2))))
theorem qJq {s1 : ByteArray} {at2 : Int} {r : Int} (h : qCy s1 at2 (fun r' => r' = r)) : qAh s1 at2 r := by
 unfold qCy at h
 refine intr (L := [(0, .dat (.v (.string s1))), (1, .dat (.v (.int .i64 at2)))]) Tryz.func34 Tryz.ntmps34 ?_
 refine sN (pI rfl (dn (AWp.seq (AWp.seq ?_))))
 obtain ⟨J88, h, hk89⟩ := h
 refine AWp.cutK (I := fun p : Bool => mkSt [(0, .dat (.v (.string s1))), (1, .dat (.v (.int .i64 at2))), (19, .dat (.v (.bool p)))] []) (Inv := fun p : Bool => J88 p) ?_ (fun p hp => ?_)
 ·refine rN (pI rfl ?_)
  obtain ⟨x8, ex8, h⟩ := h.get
  refine ai ex8 rfl (pG rfl (pI rfl (pB rfl (pB rfl (sB 12 h (fun h => ?_) (fun h => ?_))))))
  ·refine pG rfl (pI rfl (pI rfl ?_))
   obtain ⟨x9, ex9, h⟩ := h.get
   refine ai ex9 rfl ?_
   obtain ⟨h1, h2, h3, x10, ex10, h⟩ := h.get
   refine AOps.sls q01 rfl rfl rfl rfl rfl rfl rfl rfl h1 h2 h3 ex10 ?_
   refine pB rfl (pB rfl (dn ?_))
   exact ⟨(x10.toList == (ByteArray.mk #[46, 46]).toList), h, sl⟩
  refine fo 6 rfl (pB rfl (dn ?_))
  exact ⟨false, h, sl⟩
 replace h := hk89 p hp
 revert h; clear hp; generalize p = x6; intro h
 refine cB h (fun h => ?_) (fun h => ?_)
 ·refine sN (pI rfl ?_)
  obtain ⟨x12, ex12, h⟩ := h.get
  refine ai ex12 rfl (pI rfl (dn (AWp.ret ?_)))
  subst h
  exact ⟨_, rfl, rfl⟩
 refine AWp.skip (AWp.seq (AWp.seq ?_))
 refine AWp.regionN (fun o => qVc [] o) rfl ?_
 refine AOps.litown q01 (ys := [.v (.int .u8 (40 : Int)), .v (.int .u8 (41 : Int)), .v (.int .u8 (91 : Int)), .v (.int .u8 (93 : Int)), .v (.int .u8 (44 : Int)), .v (.int .u8 (59 : Int)), .v (.int .u8 (58 : Int)), .v (.int .u8 (46 : Int)), .v (.int .u8 (61 : Int)), .v (.int .u8 (43 : Int)), .v (.int .u8 (45 : Int)), .v (.int .u8 (42 : Int)), .v (.int .u8 (47 : Int)), .v (.int .u8 (94 : Int))]) rfl rfl rfl rfl rfl rfl rfl rfl ?_
 refine AOps.ownbytes q01 rfl rfl rfl rfl rfl rfl rfl rfl rfl ?_
 refine al (((([(40 : Int), (41 : Int), (91 : Int), (93 : Int), (44 : Int), (59 : Int), (58 : Int), (46 : Int), (61 : Int), (43 : Int), (45 : Int), (42 : Int), (47 : Int), (94 : Int)]).length : Nat) : Int)) rfl (pI rfl (dn (AWp.block ?_)))
 obtain ⟨I84, x85, hz86, hr87⟩ := h
 refine AWp.loop (I := fun p : Int => mkSt [(0, .dat (.v (.string s1))), (1, .dat (.v (.int .i64 at2))), (23, .dat (.sl 5 1 (List.map (eInt .u8) [(40 : Int), (41 : Int), (91 : Int), (93 : Int), (44 : Int), (59 : Int), (58 : Int), (46 : Int), (61 : Int), (43 : Int), (45 : Int), (42 : Int), (47 : Int), (94 : Int)]))), (24, .dat (.v (.int .i64 ((([(40 : Int), (41 : Int), (91 : Int), (93 : Int), (44 : Int), (59 : Int), (58 : Int), (46 : Int), (61 : Int), (43 : Int), (45 : Int), (42 : Int), (47 : Int), (94 : Int)]).length : Nat) : Int)))), (25, .dat (.v (.int .i64 p)))] []) (Inv := fun p => I84 p) (μ := fun p => x85 p) (x0 := (0 : Int)) hz86 sl (fun p hp => ?_)
 have h := hr87 p hp
 revert h; clear hp; generalize p = x67; intro h
 refine sN (pW rfl (dn (AWp.seq (cB h (fun h => ?_) (fun h => ?_)))))
 ·refine AWp.skip (AWp.seq (AWp.block (AWp.seq (rN (kI h q1g rfl rfl rfl rfl rfl rfl rfl fun x77 h => ?_)))))
  refine pI rfl (pI rfl (dn (AWp.seq (rN (pI rfl (pG rfl (pI rfl ?_)))))))
  obtain ⟨hi79, x80, hx81, h⟩ := AtS.get h
  refine AOps.sidxE q01 rfl rfl rfl rfl rfl rfl rfl hi79 hx81 ?_
  refine pB rfl (dn (cB h (fun h => ?_) (fun h => ?_)))
  ·refine sN (pI rfl ?_)
   obtain ⟨x82, ex82, h⟩ := h.get
   refine ai ex82 rfl (pI rfl (dn (AWp.ret ?_)))
   subst h
   exact ⟨_, rfl, rfl⟩
  refine AWp.skip (rN ?_)
  obtain ⟨x83, ex83, h⟩ := h.get
  refine ai ex83 rfl (pI rfl (dn ?_))
  exact ⟨x83, h.1, h.2, sl⟩
 refine AWp.exit ?_
 refine sN (pI rfl (pI rfl (dn (AWp.ret ?_))))
 subst h
 exact ⟨_, rfl, rfl⟩
def q9w (s1 : ByteArray) (at2 : Int) (Q : Int -> Prop) : Prop :=
 Loop1 at2 (fun (at44 : Int) next45 =>
 Br (decide (at44 < ((s1.size : Nat) : Int))) (
 AtS s1 at44 fun x52 =>
 Call (q2c x52) fun x54 =>
 Br x54 (
 Let (IntKind.i64.wrap (at44 + (1 : Int))) fun x56 =>
 next45 x56) (
 Q at44)) (
 Q at44))
theorem qGb {s1 : ByteArray} {at2 : Int} {r : Int} (h : q9w s1 at2 (fun r' => r' = r)) : q3z s1 at2 r := by
 unfold q9w at h
 refine intr (L := [(0, .dat (.v (.string s1))), (1, .dat (.v (.int .i64 at2)))]) Tryz.func58 Tryz.ntmps58 ?_
 refine sN (pI rfl (dn (AWp.seq (AWp.block ?_))))
 obtain ⟨I57, x58, hz59, hr60⟩ := h
 refine AWp.loop (I := fun p : Int => mkSt [(0, .dat (.v (.string s1))), (1, .dat (.v (.int .i64 p)))] []) (Inv := fun p => I57 p) (μ := fun p => x58 p) (x0 := at2) hz59 sl (fun p hp => ?_)
 have h := hr60 p hp
 revert h; clear hp; generalize p = at44; intro h
 refine AWp.seq (AWp.seq (rN (pI rfl (pG rfl (pI rfl (pB rfl (pB rfl (sB 9 h (fun h => ?_) (fun h => ?_)))))))))
 ·refine pG rfl (pI rfl ?_)
  obtain ⟨hi51, x52, hx53, h⟩ := AtS.get h
  refine AOps.sidxE q01 rfl rfl rfl rfl rfl rfl rfl hi51 hx53 ?_
  refine kC h rfl ⟨.inl rfl, trivial⟩ rfl fun x54 h => pB rfl ?_
  refine dn (cB h (fun h => ?_) (fun h => ?_))
  ·refine AWp.skip (AWp.block (rN (pI rfl ?_)))
   obtain ⟨x56, ex56, h⟩ := h.get
   refine ai ex56 rfl (pI rfl (dn ?_))
   exact ⟨x56, h.1, h.2, sl⟩
  refine AWp.exit ?_
  refine sN (pI rfl (pI rfl (dn (AWp.ret ?_))))
  subst h
  exact ⟨_, rfl, rfl⟩
 refine fo 4 rfl (pB rfl (dn ?_))
 refine AWp.condF rfl ?_
 refine AWp.exit ?_
 refine sN (pI rfl (pI rfl (dn (AWp.ret ?_))))
 subst h
 exact ⟨_, rfl, rfl⟩
end Go.Sim.YtifjflhnfjhijaaGreatDoor
