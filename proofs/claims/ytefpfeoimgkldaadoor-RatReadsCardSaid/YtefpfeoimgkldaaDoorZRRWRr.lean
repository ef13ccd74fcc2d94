/- What is proved: functions of the program compute what plain statements tell. -/
import Derived.Test.YtefpfeoimgkldaaDoorZRRWE

namespace Go.Sim.YtefpfeoimgkldaaDoor
open Go.RowKit Go.Proofs Go.Proofs.Tryd
set_option maxRecDepth 100000
def W_ref11_Read (x1 : ByteArray) (Q : GRat × Int → Prop) : Prop :=
 Call (Ev_ref11_upto x1 (0 : Int)) fun x2 =>
 Br (decide (x2 < (1 : Int))) (Q (GRat.zero, (110 : Int))) (
  Br (decide (x2 > (40 : Int))) (Q (GRat.zero, (110 : Int))) (
   SlS x1 (0 : Int) x2 fun x4 =>
   Join1 (fun j9 =>
    Br (decide (x2 < ((x1.size : Nat) : Int))) (
     AtS x1 x2 fun x11 =>
     j9 (x11 == (46 : Int))) (
     j9 false)
   ) (fun (x8 : Bool) =>
    Join3 (fun j32 =>
     Br x8 (
      Let (IntKind.i64.wrap (x2 + (1 : Int))) fun x33 =>
      Call (Ev_ref11_upto x1 x33) fun x34 =>
      Let (IntKind.i64.wrap (x34 - x2)) fun x40 =>
      Let (IntKind.i64.wrap (x40 - (1 : Int))) fun x41 =>
      Br (decide (x41 < (1 : Int))) (Q (GRat.zero, (110 : Int))) (
       Let (IntKind.i64.wrap (x34 - x2)) fun x42 =>
       Let (IntKind.i64.wrap (x42 - (1 : Int))) fun x43 =>
       Br (decide (x43 > (40 : Int))) (Q (GRat.zero, (110 : Int))) (
        Let (IntKind.i64.wrap (x2 + (1 : Int))) fun x44 =>
        SlS x1 x44 x34 fun x45 =>
        Cat x4 x45 fun x46 =>
        Let (IntKind.i64.wrap (x2 + (1 : Int))) fun x47 =>
        Let (IntKind.i64.wrap (x47 - x34)) fun x48 =>
        j32 x34 x46 x48))) (
      j32 x2 x4 (0 : Int))
    ) (fun (x29 : Int) (x30 : ByteArray) (x31 : Int) =>
     Join1 (fun j115 =>
      Br (decide (x29 < ((x1.size : Nat) : Int))) (
       Join1 (fun j123 =>
        AtS x1 x29 fun x125 =>
        Br (x125 != (101 : Int)) (
         AtS x1 x29 fun x128 =>
         j123 (x128 != (69 : Int))) (
         j123 false)
       ) (fun (x122 : Bool) =>
        Br x122 (Q (GRat.zero, (110 : Int))) (
         Let (IntKind.i64.wrap (x29 + (1 : Int))) fun x130 =>
         Join1 (fun j138 =>
          Br (decide (x130 < ((x1.size : Nat) : Int))) (
           AtS x1 x130 fun x140 =>
           Br (x140 == (43 : Int)) (j138 true) (
            AtS x1 x130 fun x143 =>
            j138 (x143 == (45 : Int)))) (
           j138 false)
         ) (fun (x137 : Bool) =>
          Join2 (fun j155 =>
           Br x137 (
            AtS x1 x130 fun x157 =>
            Join1 (fun j160 =>
             Br (x157 == (45 : Int)) (j160 (-1 : Int)) (
              j160 (1 : Int))
            ) (fun (x159 : Int) =>
             Let (IntKind.i64.wrap (x130 + (1 : Int))) fun x161 =>
             j155 x161 x159)) (
            j155 x130 (1 : Int))
          ) (fun (x153 : Int) (x154 : Int) =>
           Call (Ev_ref11_upto x1 x153) fun x164 =>
           Br (x164 != ((x1.size : Nat) : Int)) (Q (GRat.zero, (110 : Int))) (
            Let (IntKind.i64.wrap (x164 - x153)) fun x168 =>
            Br (decide (x168 < (1 : Int))) (Q (GRat.zero, (110 : Int))) (
             Let (IntKind.i64.wrap (x164 - x153)) fun x169 =>
             Br (decide (x169 > (2 : Int))) (Q (GRat.zero, (110 : Int))) (
              SlS x1 x153 x164 fun x170 =>
              Call (Ev_strconv_Atoi x170) fun x171 =>
              Let (IntKind.i64.wrap (x154 * x171.1)) fun x173 =>
              Let (IntKind.i64.wrap (x31 + x173)) fun x174 =>
              j115 x174)))))))) (
       j115 x31)
     ) (fun (x114 : Int) =>
      Call (Ev_ref11_value x30) fun x181 =>
      Call (Ev_ref01_Of (10 : Int)) fun x183 =>
      Br (decide (x114 ≥ (0 : Int))) (
       Call (Ev_ref11_power x183 x114) fun x193 =>
       Call (Ev_ref01_By x181 x193) fun x195 =>
       Call (Ev_ref11_one) fun x197 =>
       Call (Ev_ref11_Of false x195 x197) fun x199 =>
       Q (x199.1, x199.2)) (
       Let (IntKind.i64.wrap ((0 : Int) - x114)) fun x201 =>
       Call (Ev_ref11_power x183 x201) fun x202 =>
       Call (Ev_ref11_Of false x181 x202) fun x204 =>
       Q (x204.1, x204.2)))))))
theorem walk_ref11_Read {x1 : ByteArray} {r : GRat × Int} (h : W_ref11_Read x1 (fun r' => r' = r)) : Ev_ref11_Read x1 r := by
  unfold W_ref11_Read at h
  refine intr (L := [(0, .dat (.v (.string x1)))]) Tryd.func5 Tryd.ntmps5 ?_
  refine sN (al0 ?_)
  refine pI rfl (dn (AWp.seq (rN (pG rfl ?_))))
  obtain ⟨x2, hc3, h⟩ := h
  refine ca hc3 rfl ⟨.inl rfl, .inl rfl, trivial⟩ rfl (pI rfl (dn (AWp.seq (AWp.seq (rN (pI rfl (pB rfl (pB rfl (sB 18 h (fun h => ?_) (fun h => ?_))))))))))
  · refine ff rfl (ff rfl (pB rfl (dn ?_)))
    refine AWp.condT rfl ?_
    refine sW (pT rfl (st (v := .dat (.st _ _)) ?_))
    refine pI rfl (dn (AWp.ret ?_))
    subst h
    exact ⟨_, rfl, rfl⟩
  refine pI rfl (pB rfl (pB rfl (dn (cB h (fun h => ?_) (fun h => ?_)))))
  · refine sW (pT rfl (st (v := .dat (.st _ _)) ?_))
    refine pI rfl (dn (AWp.ret ?_))
    subst h
    exact ⟨_, rfl, rfl⟩
  refine AWp.skip ?_
  refine sN (pG rfl (pI rfl ?_))
  obtain ⟨h1, h2, h3, x4, ex4, h⟩ := h.get
  refine AOps.slsh tabOk rfl rfl rfl rfl rfl rfl rfl h2 h3 ex4 ?_
  refine pG rfl (dn (AWp.seq (rN (pI rfl (dn (AWp.seq (AWp.seq ?_)))))))
  obtain ⟨J210, h, hk211⟩ := h
  refine AWp.cutK (I := fun p : Bool => mkSt [(0, .dat (.v (.string x1))), (2, .pt 2 [] 0), (4, .dat (.v (.int .i64 x2))), (5, .dat (.v (.string x4))), (6, .dat (.v (.int .i64 (0 : Int)))), (35, .dat (.v (.bool p)))] [(2, .box 23 2 (.dat (GRat.enc GRat.zero)))]) (Inv := fun p : Bool => J210 p) ?_ (fun p hp => ?_)
  · refine rN (pI rfl (pG rfl (pI rfl (pB rfl (pB rfl (sB 30 h (fun h => ?_) (fun h => ?_)))))))
    · refine pG rfl (pI rfl ?_)
      obtain ⟨hi10, x11, hx12, h⟩ := AtS.get h
      refine AOps.sidxE tabOk rfl rfl rfl rfl rfl rfl rfl hi10 hx12 ?_
      refine pB rfl (pB rfl (dn ?_))
      exact ⟨(x11 == (46 : Int)), h, sl⟩
    refine ff rfl (ff rfl (ff rfl (ff rfl (pB rfl (dn ?_)))))
    exact ⟨false, h, sl⟩
  replace h := hk211 p hp
  revert h; clear hp; generalize p = x8; intro h
  obtain ⟨J208, h, hk209⟩ := h
  refine AWp.cutK (I := fun p : Int × ByteArray × Int => mkSt [(0, .dat (.v (.string x1))), (2, .pt 2 [] 0), (4, .dat (.v (.int .i64 p.1))), (5, .dat (.v (.string p.2.1))), (6, .dat (.v (.int .i64 p.2.2)))] [(2, .box 23 2 (.dat (GRat.enc GRat.zero)))]) (Inv := fun p : Int × ByteArray × Int => J208 p.1 p.2.1 p.2.2) ?_ (fun p hp => ?_)
  · refine cB h (fun h => ?_) (fun h => ?_)
    · refine sN (pG rfl (pI rfl ?_))
      obtain ⟨x33, ex33, h⟩ := h.get
      refine ai ex33 rfl ?_
      obtain ⟨x34, hc35, h⟩ := h
      refine ca hc35 rfl ⟨.inl rfl, .inl rfl, trivial⟩ rfl (pI rfl (dn (AWp.seq (AWp.seq (rN (pI rfl (pI rfl ?_)))))))
      obtain ⟨x40, ex40, h⟩ := h.get
      refine ai ex40 rfl ?_
      obtain ⟨x41, ex41, h⟩ := h.get
      refine ai ex41 rfl (pB rfl (pB rfl (sB 45 h (fun h => ?_) (fun h => ?_))))
      · refine ff rfl (ff rfl (ff rfl (ff rfl (ff rfl (pB rfl (dn ?_))))))
        refine AWp.condT rfl ?_
        refine sW (pT rfl (st (v := .dat (.st _ _)) ?_))
        refine pI rfl (dn (AWp.ret ?_))
        subst h
        exact ⟨_, rfl, rfl⟩
      refine pI rfl (pI rfl ?_)
      obtain ⟨x42, ex42, h⟩ := h.get
      refine ai ex42 rfl ?_
      obtain ⟨x43, ex43, h⟩ := h.get
      refine ai ex43 rfl (pB rfl (pB rfl (dn (cB h (fun h => ?_) (fun h => ?_)))))
      · refine sW (pT rfl (st (v := .dat (.st _ _)) ?_))
        refine pI rfl (dn (AWp.ret ?_))
        subst h
        exact ⟨_, rfl, rfl⟩
      refine AWp.skip ?_
      refine sN (pG rfl (pG rfl (pI rfl ?_)))
      obtain ⟨x44, ex44, h⟩ := h.get
      refine ai ex44 rfl (pI rfl ?_)
      obtain ⟨h1, h2, h3, x45, ex45, h⟩ := h.get
      refine AOps.sls tabOk rfl rfl rfl rfl rfl rfl rfl rfl h1 h2 h3 ex45 ?_
      obtain ⟨hq, x46, ex46, h⟩ := h.get
      refine AOps.catE rfl rfl rfl rfl rfl hq ex46 ?_
      refine pG rfl (dn (AWp.seq (rN (pI rfl ?_))))
      obtain ⟨x47, ex47, h⟩ := h.get
      refine ai ex47 rfl (pI rfl ?_)
      obtain ⟨x48, ex48, h⟩ := h.get
      refine ai ex48 rfl (pI rfl (dn (rN (pI rfl (pI rfl (dn ?_))))))
      exact ⟨⟨x34, x46, x48⟩, h, sl⟩
    refine AWp.skip ?_
    exact ⟨⟨x2, x4, (0 : Int)⟩, h, sl⟩
  obtain ⟨x29, x30, x31⟩ := p
  replace h := hk209 x29 x30 x31 hp
  refine AWp.seq (AWp.seq (rN (pI rfl (pG rfl (pI rfl (pB rfl (dn ?_)))))))
  obtain ⟨J206, h, hk207⟩ := h
  refine AWp.cutK (I := fun p : Int => mkSt [(2, .pt 2 [] 0), (5, .dat (.v (.string x30))), (6, .dat (.v (.int .i64 p)))] [(2, .box 23 2 (.dat (GRat.enc GRat.zero)))]) (Inv := fun p : Int => J206 p) ?_ (fun p hp => ?_)
  · refine cB h (fun h => ?_) (fun h => ?_)
    · refine AWp.seq (AWp.seq ?_)
      obtain ⟨J179, h, hk180⟩ := h
      refine AWp.cutK (I := fun p : Bool => mkSt [(0, .dat (.v (.string x1))), (2, .pt 2 [] 0), (4, .dat (.v (.int .i64 x29))), (5, .dat (.v (.string x30))), (6, .dat (.v (.int .i64 x31))), (78, .dat (.v (.bool p)))] [(2, .box 23 2 (.dat (GRat.enc GRat.zero)))]) (Inv := fun p : Bool => J179 p) ?_ (fun p hp => ?_)
      · refine rN (pG rfl (pI rfl ?_))
        obtain ⟨hi124, x125, hx126, h⟩ := AtS.get h
        refine AOps.sidxE tabOk rfl rfl rfl rfl rfl rfl rfl hi124 hx126 ?_
        refine pB rfl (pB rfl (sB 73 h (fun h => ?_) (fun h => ?_)))
        · refine pG rfl (pI rfl ?_)
          obtain ⟨hi127, x128, hx129, h⟩ := AtS.get h
          refine AOps.sidxE tabOk rfl rfl rfl rfl rfl rfl rfl hi127 hx129 ?_
          refine pB rfl (pB rfl (dn ?_))
          exact ⟨(x128 != (69 : Int)), h, sl⟩
        refine ff rfl (ff rfl (ff rfl (ff rfl (pB rfl (dn ?_)))))
        exact ⟨false, h, sl⟩
      replace h := hk180 p hp
      revert h; clear hp; generalize p = x122; intro h
      refine cB h (fun h => ?_) (fun h => ?_)
      · refine sW (pT rfl (st (v := .dat (.st _ _)) ?_))
        refine pI rfl (dn (AWp.ret ?_))
        subst h
        exact ⟨_, rfl, rfl⟩
      refine AWp.skip ?_
      refine sN (pI rfl ?_)
      obtain ⟨x130, ex130, h⟩ := h.get
      refine ai ex130 rfl (pI rfl (dn (AWp.seq (rN (pI rfl (dn (AWp.seq (AWp.seq ?_))))))))
      obtain ⟨J177, h, hk178⟩ := h
      refine AWp.cutK (I := fun p : Bool => mkSt [(0, .dat (.v (.string x1))), (2, .pt 2 [] 0), (4, .dat (.v (.int .i64 x130))), (5, .dat (.v (.string x30))), (6, .dat (.v (.int .i64 x31))), (8, .dat (.v (.int .i64 (1 : Int)))), (97, .dat (.v (.bool p)))] [(2, .box 23 2 (.dat (GRat.enc GRat.zero)))]) (Inv := fun p : Bool => J177 p) ?_ (fun p hp => ?_)
      · refine rN (pI rfl (pG rfl (pI rfl (pB rfl (pB rfl (sB 86 h (fun h => ?_) (fun h => ?_)))))))
        · refine pG rfl (pI rfl ?_)
          obtain ⟨hi139, x140, hx141, h⟩ := AtS.get h
          refine AOps.sidxE tabOk rfl rfl rfl rfl rfl rfl rfl hi139 hx141 ?_
          refine pB rfl (pB rfl (sB 91 h (fun h => ?_) (fun h => ?_)))
          · refine ff rfl (ff rfl (ff rfl (ff rfl (pB rfl (pB rfl (dn ?_))))))
            exact ⟨true, h, sl⟩
          refine pG rfl (pI rfl ?_)
          obtain ⟨hi142, x143, hx144, h⟩ := AtS.get h
          refine AOps.sidxE tabOk rfl rfl rfl rfl rfl rfl rfl hi142 hx144 ?_
          refine pB rfl (pB rfl (pB rfl (dn ?_)))
          exact ⟨(x143 == (45 : Int)), h, sl⟩
        refine ff rfl (ff rfl (ff rfl (ff rfl (ff rfl (ff rfl (ff rfl (ff rfl (ff rfl (ff rfl (pB rfl (dn ?_)))))))))))
        exact ⟨false, h, sl⟩
      replace h := hk178 p hp
      revert h; clear hp; generalize p = x137; intro h
      obtain ⟨J175, h, hk176⟩ := h
      refine AWp.cutK (I := fun p : Int × Int => mkSt [(0, .dat (.v (.string x1))), (2, .pt 2 [] 0), (4, .dat (.v (.int .i64 p.1))), (5, .dat (.v (.string x30))), (6, .dat (.v (.int .i64 x31))), (8, .dat (.v (.int .i64 p.2)))] [(2, .box 23 2 (.dat (GRat.enc GRat.zero)))]) (Inv := fun p : Int × Int => J175 p.1 p.2) ?_ (fun p hp => ?_)
      · refine cB h (fun h => ?_) (fun h => ?_)
        · refine AWp.seq (AWp.seq (rN (pG rfl (pI rfl ?_))))
          obtain ⟨hi156, x157, hx158, h⟩ := AtS.get h
          refine AOps.sidxE tabOk rfl rfl rfl rfl rfl rfl rfl hi156 hx158 ?_
          refine pB rfl (dn ?_)
          obtain ⟨J162, h, hk163⟩ := h
          refine AWp.cutK (I := fun p : Int => mkSt [(0, .dat (.v (.string x1))), (2, .pt 2 [] 0), (4, .dat (.v (.int .i64 x130))), (5, .dat (.v (.string x30))), (6, .dat (.v (.int .i64 x31))), (8, .dat (.v (.int .i64 p)))] [(2, .box 23 2 (.dat (GRat.enc GRat.zero)))]) (Inv := fun p : Int => J162 p) ?_ (fun p hp => ?_)
          · refine cB h (fun h => ?_) (fun h => ?_)
            · refine rN (pI rfl (dn ?_))
              exact ⟨(-1 : Int), h, sl⟩
            refine AWp.skip ?_
            exact ⟨(1 : Int), h, sl⟩
          replace h := hk163 p hp
          revert h; clear hp; generalize p = x159; intro h
          refine rN (pI rfl ?_)
          obtain ⟨x161, ex161, h⟩ := h.get
          refine ai ex161 rfl (pI rfl (dn ?_))
          exact ⟨⟨x161, x159⟩, h, sl⟩
        refine AWp.skip ?_
        exact ⟨⟨x130, (1 : Int)⟩, h, sl⟩
      obtain ⟨x153, x154⟩ := p
      replace h := hk176 x153 x154 hp
      refine sN (pG rfl (pI rfl ?_))
      obtain ⟨x164, hc165, h⟩ := h
      refine ca hc165 rfl ⟨.inl rfl, .inl rfl, trivial⟩ rfl (pI rfl (dn (AWp.seq (AWp.seq (rN (pI rfl (pG rfl (pI rfl (pB rfl (pB rfl (sB 111 h (fun h => ?_) (fun h => ?_))))))))))))
      · refine ff rfl (ff rfl (ff rfl (ff rfl (pB rfl (pB rfl (ff rfl (ff rfl (ff rfl (ff rfl (pB rfl (dn ?_)))))))))))
        refine AWp.condT rfl ?_
        refine sW (pT rfl (st (v := .dat (.st _ _)) ?_))
        refine pI rfl (dn (AWp.ret ?_))
        subst h
        exact ⟨_, rfl, rfl⟩
      refine pI rfl (pI rfl ?_)
      obtain ⟨x168, ex168, h⟩ := h.get
      refine ai ex168 rfl (pB rfl (pB rfl (pB rfl (sB 117 h (fun h => ?_) (fun h => ?_)))))
      · refine ff rfl (ff rfl (ff rfl (ff rfl (pB rfl (dn ?_)))))
        refine AWp.condT rfl ?_
        refine sW (pT rfl (st (v := .dat (.st _ _)) ?_))
        refine pI rfl (dn (AWp.ret ?_))
        subst h
        exact ⟨_, rfl, rfl⟩
      refine pI rfl (pI rfl ?_)
      obtain ⟨x169, ex169, h⟩ := h.get
      refine ai ex169 rfl (pB rfl (pB rfl (dn (cB h (fun h => ?_) (fun h => ?_)))))
      · refine sW (pT rfl (st (v := .dat (.st _ _)) ?_))
        refine pI rfl (dn (AWp.ret ?_))
        subst h
        exact ⟨_, rfl, rfl⟩
      refine AWp.skip ?_
      refine sN (pG rfl (pI rfl (pI rfl ?_)))
      obtain ⟨h1, h2, h3, x170, ex170, h⟩ := h.get
      refine AOps.sls tabOk rfl rfl rfl rfl rfl rfl rfl rfl h1 h2 h3 ex170 ?_
      obtain ⟨x171, hc172, h⟩ := h
      refine ca hc172 rfl ⟨.inl rfl, trivial⟩ rfl (pU rfl (pI rfl (pW rfl (pI rfl ?_))))
      refine AOps.mv rfl rfl (.inr rfl) rfl ?_
      refine dn (rN (pI rfl (pI rfl (pI rfl ?_))))
      obtain ⟨x173, ex173, h⟩ := h.get
      refine ai ex173 rfl ?_
      obtain ⟨x174, ex174, h⟩ := h.get
      refine ai ex174 rfl (pI rfl (dn ?_))
      exact ⟨x174, h, sl⟩
    refine AWp.skip ?_
    exact ⟨x31, h, sl⟩
  replace h := hk207 p hp
  revert h; clear hp; generalize p = x114; intro h
  refine sN (pG rfl ?_)
  obtain ⟨x181, hc182, h⟩ := h
  refine ca hc182 rfl ⟨.inl rfl, trivial⟩ rfl (pS rfl (dn (AWp.seq (rN ?_))))
  obtain ⟨x183, hc184, h⟩ := h
  refine ca hc184 rfl ⟨.inl rfl, trivial⟩ rfl (pS rfl (dn (AWp.seq (AWp.seq (rN (pI rfl (pB rfl (dn (cB h (fun h => ?_) (fun h => ?_))))))))))
  · refine sW (pS rfl (pS rfl (pI rfl ?_)))
    obtain ⟨x193, hc194, h⟩ := h
    refine ca hc194 rfl ⟨.inl rfl, .inl rfl, trivial⟩ rfl ?_
    obtain ⟨x195, hc196, h⟩ := h
    refine ca hc196 rfl ⟨.inl rfl, .inl rfl, trivial⟩ rfl ?_
    obtain ⟨x197, hc198, h⟩ := h
    refine ca hc198 rfl trivial rfl ?_
    obtain ⟨x199, hc200, h⟩ := h
    refine ca hc200 rfl ⟨.inl rfl, .inl rfl, .inl rfl, trivial⟩ rfl (pT rfl (pI rfl (st (v := .dat (.st _ _)) ?_)))
    refine pI rfl (dn (AWp.ret ?_))
    subst h
    exact ⟨_, rfl, rfl⟩
  refine AWp.skip ?_
  refine sW (pS rfl (pS rfl (pI rfl ?_)))
  obtain ⟨x201, ex201, h⟩ := h.get
  refine ai ex201 rfl ?_
  obtain ⟨x202, hc203, h⟩ := h
  refine ca hc203 rfl ⟨.inl rfl, .inl rfl, trivial⟩ rfl ?_
  obtain ⟨x204, hc205, h⟩ := h
  refine ca hc205 rfl ⟨.inl rfl, .inl rfl, .inl rfl, trivial⟩ rfl (pT rfl (pI rfl (st (v := .dat (.st _ _)) ?_)))
  refine pI rfl (dn (AWp.ret ?_))
  subst h
  exact ⟨_, rfl, rfl⟩
def W_ref11_upto (s1 : ByteArray) (at2 : Int) (Q : Int → Prop) : Prop :=
 Loop1 at2 (fun (at50 : Int) next51 =>
  Br (decide (at50 < ((s1.size : Nat) : Int))) (
   AtS s1 at50 fun x59 =>
   Br (decide (x59 ≥ (48 : Int))) (
    AtS s1 at50 fun x62 =>
    Br (decide (x62 ≤ (57 : Int))) (
     Let (IntKind.i64.wrap (at50 + (1 : Int))) fun x64 =>
     next51 x64) (
     Q at50)) (
    Q at50)) (
   Q at50))
theorem walk_ref11_upto {s1 : ByteArray} {at2 : Int} {r : Int} (h : W_ref11_upto s1 at2 (fun r' => r' = r)) : Ev_ref11_upto s1 at2 r := by
  unfold W_ref11_upto at h
  refine intr (L := [(0, .dat (.v (.string s1))), (1, .dat (.v (.int .i64 at2)))]) Tryd.func9 Tryd.ntmps9 ?_
  refine sN (pI rfl (dn (AWp.seq (AWp.block ?_))))
  obtain ⟨I65, x66, hz67, hr68⟩ := h
  refine AWp.loop (I := fun p : Int => mkSt [(0, .dat (.v (.string s1))), (1, .dat (.v (.int .i64 p)))] []) (Inv := fun p => I65 p) (μ := fun p => x66 p) (x0 := at2) hz67 sl (fun p hp => ?_)
  have h := hr68 p hp
  revert h; clear hp; generalize p = at50; intro h
  refine AWp.seq (AWp.seq (rN (pI rfl (pG rfl (pI rfl (pB rfl (pB rfl (sB 9 h (fun h => ?_) (fun h => ?_)))))))))
  · refine pG rfl (pI rfl ?_)
    obtain ⟨hi58, x59, hx60, h⟩ := AtS.get h
    refine AOps.sidxE tabOk rfl rfl rfl rfl rfl rfl rfl hi58 hx60 ?_
    refine pB rfl (pB rfl (pB rfl (sB 15 h (fun h => ?_) (fun h => ?_))))
    · refine pG rfl (pI rfl ?_)
      obtain ⟨hi61, x62, hx63, h⟩ := AtS.get h
      refine AOps.sidxE tabOk rfl rfl rfl rfl rfl rfl rfl hi61 hx63 ?_
      refine pB rfl (pB rfl (dn (cB h (fun h => ?_) (fun h => ?_))))
      · refine AWp.skip ?_
        refine AWp.block (rN (pI rfl ?_))
        obtain ⟨x64, ex64, h⟩ := h.get
        refine ai ex64 rfl (pI rfl (dn ?_))
        exact ⟨x64, h.1, h.2, sl⟩
      refine AWp.exit ?_
      refine sN (pI rfl (pI rfl (dn (AWp.ret ?_))))
      subst h
      exact ⟨_, rfl, rfl⟩
    refine ff rfl (ff rfl (ff rfl (ff rfl (pB rfl (dn ?_)))))
    refine AWp.condF rfl ?_
    refine AWp.exit ?_
    refine sN (pI rfl (pI rfl (dn (AWp.ret ?_))))
    subst h
    exact ⟨_, rfl, rfl⟩
  refine ff rfl (ff rfl (ff rfl (ff rfl (pB rfl (pB rfl (ff rfl (ff rfl (ff rfl (ff rfl (pB rfl (dn ?_)))))))))))
  refine AWp.condF rfl ?_
  refine AWp.exit ?_
  refine sN (pI rfl (pI rfl (dn (AWp.ret ?_))))
  subst h
  exact ⟨_, rfl, rfl⟩
def W_ref11_value (s1 : ByteArray) (Q : List Int → Prop) : Prop :=
 Loop2 ([] : List Int) (0 : Int) (fun (n94 : List Int) (i95 : Int) next96 =>
  Br (decide (i95 < ((s1.size : Nat) : Int))) (
   Call (Ev_ref01_Of (10 : Int)) fun x110 =>
   Call (Ev_ref01_By n94 x110) fun x112 =>
   AtS s1 i95 fun x115 =>
   Let (IntKind.u8.wrap (x115 - (48 : Int))) fun x117 =>
   Let (IntKind.u64.wrap x117) fun x118 =>
   Call (Ev_ref01_Of x118) fun x119 =>
   Call (Ev_ref01_Plus x112 x119) fun x121 =>
   Let (IntKind.i64.wrap (i95 + (1 : Int))) fun x123 =>
   next96 x121 x123) (
   Q n94))
theorem walk_ref11_value {s1 : ByteArray} {r : List Int} (h : W_ref11_value s1 (fun r' => r' = r)) : Ev_ref11_value s1 r := by
  unfold W_ref11_value at h
  refine intr (L := [(0, .dat (.v (.string s1)))]) Tryd.func11 Tryd.ntmps11 ?_
  refine sN (pS rfl (dn (AWp.seq (rN ?_))))
  refine AOps.lit tabOk (ys := []) rfl rfl rfl rfl rfl rfl ?_
  refine pS rfl (dn (AWp.seq (AWp.seq (rN (pI rfl (dn (AWp.block ?_)))))))
  obtain ⟨I124, x125, hz126, hr127⟩ := h
  refine AWp.loop (I := fun p : (List Int) × Int => mkSt [(0, .dat (.v (.string s1))), (3, .dat (.sl 67 1 (List.map (eInt .u32) p.1))), (4, .dat (.v (.int .i64 p.2)))] []) (Inv := fun p => I124 p.1 p.2) (μ := fun p => x125 p.1 p.2) (x0 := ⟨([] : List Int), (0 : Int)⟩) hz126 sl (fun p hp => ?_)
  obtain ⟨n94, i95⟩ := p
  have h := hr127 n94 i95 hp
  refine AWp.seq (AWp.seq (rN (pI rfl (pG rfl (pI rfl (pB rfl (dn (cB h (fun h => ?_) (fun h => ?_)))))))))
  · refine AWp.skip ?_
    refine AWp.seq (AWp.block (rD (pS rfl ?_)))
    obtain ⟨x110, hc111, h⟩ := h
    refine ca hc111 rfl ⟨.inl rfl, trivial⟩ rfl ?_
    obtain ⟨x112, hc113, h⟩ := h
    refine ca hc113 rfl ⟨.inl rfl, .inl rfl, trivial⟩ rfl (pG rfl (pI rfl ?_))
    obtain ⟨hi114, x115, hx116, h⟩ := AtS.get h
    refine AOps.sidxE tabOk rfl rfl rfl rfl rfl rfl rfl hi114 hx116 ?_
    obtain ⟨x117, ex117, h⟩ := h.get
    refine ai ex117 rfl ?_
    obtain ⟨x118, ex118, h⟩ := h.get
    refine ai ex118 rfl ?_
    obtain ⟨x119, hc120, h⟩ := h
    refine ca hc120 rfl ⟨.inl rfl, trivial⟩ rfl ?_
    obtain ⟨x121, hc122, h⟩ := h
    refine ca hc122 rfl ⟨.inl rfl, .inl rfl, trivial⟩ rfl (pS rfl (dn (rN (pI rfl ?_))))
    obtain ⟨x123, ex123, h⟩ := h.get
    refine ai ex123 rfl (pI rfl (dn ?_))
    exact ⟨⟨x121, x123⟩, h.1, h.2, sl⟩
  refine AWp.exit ?_
  refine sN (pS rfl (pS rfl (dn (AWp.ret ?_))))
  subst h
  exact ⟨_, rfl, rfl⟩
def W_ref11_power (a1 : List Int) (n2 : Int) (Q : List Int → Prop) : Prop :=
 Call (Ev_ref11_one) fun x3 =>
 Loop2 x3 (0 : Int) (fun (p31 : List Int) (i32 : Int) next33 =>
  Br (decide (i32 < n2)) (
   Call (Ev_ref01_By p31 a1) fun x36 =>
   Let (IntKind.i64.wrap (i32 + (1 : Int))) fun x38 =>
   next33 x36 x38) (
   Q p31))
theorem walk_ref11_power {a1 : List Int} {n2 : Int} {r : List Int} (h : W_ref11_power a1 n2 (fun r' => r' = r)) : Ev_ref11_power a1 n2 r := by
  unfold W_ref11_power at h
  refine intr (L := [(0, .dat (.sl 67 1 (List.map (eInt .u32) a1))), (1, .dat (.v (.int .i64 n2)))]) Tryd.func15 Tryd.ntmps15 ?_
  refine sN (pS rfl (dn (AWp.seq (rN ?_))))
  obtain ⟨x3, hc4, h⟩ := h
  refine ca hc4 rfl trivial rfl (pS rfl (dn (AWp.seq (AWp.seq (rN (pI rfl (dn (AWp.block ?_))))))))
  obtain ⟨I39, x40, hz41, hr42⟩ := h
  refine AWp.loop (I := fun p : (List Int) × Int => mkSt [(0, .dat (.sl 67 1 (List.map (eInt .u32) a1))), (1, .dat (.v (.int .i64 n2))), (5, .dat (.sl 67 1 (List.map (eInt .u32) p.1))), (6, .dat (.v (.int .i64 p.2)))] []) (Inv := fun p => I39 p.1 p.2) (μ := fun p => x40 p.1 p.2) (x0 := ⟨x3, (0 : Int)⟩) hz41 sl (fun p hp => ?_)
  obtain ⟨p31, i32⟩ := p
  have h := hr42 p31 i32 hp
  refine AWp.seq (AWp.seq (rN (pI rfl (pI rfl (pB rfl (dn (cB h (fun h => ?_) (fun h => ?_))))))))
  · refine AWp.skip ?_
    refine AWp.seq (AWp.block (rN (pS rfl (pS rfl ?_))))
    obtain ⟨x36, hc37, h⟩ := h
    refine ca hc37 rfl ⟨.inl rfl, .inl rfl, trivial⟩ rfl (pS rfl (dn (rN (pI rfl ?_))))
    obtain ⟨x38, ex38, h⟩ := h.get
    refine ai ex38 rfl (pI rfl (dn ?_))
    exact ⟨⟨x36, x38⟩, h.1, h.2, sl⟩
  refine AWp.exit ?_
  refine sN (pS rfl (pS rfl (dn (AWp.ret ?_))))
  subst h
  exact ⟨_, rfl, rfl⟩
end Go.Sim.YtefpfeoimgkldaaDoor
