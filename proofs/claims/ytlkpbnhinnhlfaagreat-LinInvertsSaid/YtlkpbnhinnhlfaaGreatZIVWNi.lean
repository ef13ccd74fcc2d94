/- What is proved: functions of the program compute what plain statements tell. -/
import Derived.Test.YtlkpbnhinnhlfaaGreatZIVWE

namespace Go.Sim.YtlkpbnhinnhlfaaGreat
open Go.RowKit Go.Proofs Go.Proofs.Tryz
set_option maxRecDepth 100000
def W_lin_Inverse (x1 : List (List Nat)) (Q : (List (List GIval)) × Int → Prop) : Prop :=
 Call (Ev_lin_floats x1) fun x9 =>
 Br (!x9) (Q (([] : List (List GIval)), (1 : Int))) (
  At x1 (0 : Int) fun x13 =>
  Br (((x1.length : Nat) : Int) != ((x13.length : Nat) : Int)) (Q (([] : List (List GIval)), (1 : Int))) (
   CallS (EvS_lin_nearly x1) fun x16 =>
   Call (Ev_lin_floats x16) fun x17 =>
   Br (!x17) (Q (([] : List (List GIval)), (40 : Int))) (
    Call (Ev_lin_Points x16) fun x19 =>
    Call (Ev_lin_Points x1) fun x21 =>
    Call (Ev_lin_Mul x19 x21) fun x23 =>
    Call (Ev_lin_lessOne x23.1) fun x25 =>
    Call (Ev_lin_Norm x25) fun x27 =>
    Br (!(FloatKind.f64.format.order x27.1 (4602678819172646912 : Nat) == some .lt)) (Q (([] : List (List GIval)), (40 : Int))) (
     Call (Ev_ulp_Sub (4607182418800017408 : Nat) x27.1 (-1 : Int)) fun x29 =>
     Call (Ev_ulp_Div x27.1 x29 (1 : Int)) fun x31 =>
     Call (EvR_lin_Points x16) fun x33 =>
     Loop2 x33 (0 : Int) (fun (x1460 : List (List GIval)) (x1461 : Int) next1462 =>
      Br (decide (x1461 < ((x16.length : Nat) : Int))) (
       Loop2 (0 : Nat) (0 : Int) (fun (x1769 : Nat) (x1770 : Int) next1771 =>
        Br (decide (x1770 < ((x16.length : Nat) : Int))) (
         At x16 x1770 fun x1782 =>
         At x1782 x1461 fun x1785 =>
         Call (Ev_math_Abs x1785) fun x1787 =>
         FMx x1769 x1787 fun x1789 =>
         Let (IntKind.i64.wrap (x1770 + (1 : Int))) fun x1790 =>
         next1771 x1789 x1790) (
         Call (Ev_ulp_Mul x31 x1769 (1 : Int)) fun x1791 =>
         Loop2 x1460 (0 : Int) (fun (x1859 : List (List GIval)) (x1860 : Int) next1861 =>
          Br (decide (x1860 < ((x16.length : Nat) : Int))) (
           At x1859 x1860 fun x1894 =>
           At x1894 x1461 fun x1903 =>
           Let (Op.negFloat .f64 x1791) fun x1905 =>
           Call (Ev_ival_Make x1905 x1791) fun x1906 =>
           Call (Ev_ival_Add x1903 x1906) fun x1908 =>
           At x1894 x1461 fun x1911 =>
           At (List.set x1859 (Int.toNat x1860) (List.set x1894 (Int.toNat x1461) x1908)) x1860 fun x1914 =>
           At x1914 x1461 fun x1920 =>
           Call (Ev_ival_Empty) fun x1922 =>
           Br (GIval.beq x1920 x1922) (Q (([] : List (List GIval)), (40 : Int))) (
            Let (IntKind.i64.wrap (x1860 + (1 : Int))) fun x1924 =>
            next1861 (List.set (List.set x1859 (Int.toNat x1860) (List.set x1894 (Int.toNat x1461) x1908)) (Int.toNat x1860) x1914) x1924)) (
           Let (IntKind.i64.wrap (x1461 + (1 : Int))) fun x1925 =>
           next1462 x1859 x1925))))) (
       Q (x1460, (0 : Int))))))))
theorem walkS_lin_Inverse {x1 : List (List Nat)} {R : (List (List GIval)) × Int → Prop} (h : W_lin_Inverse x1 R) : EvS_lin_Inverse x1 R := by
  unfold W_lin_Inverse at h
  refine AFnS.intro' (L := [(0, .dat (.sl 27 1 (List.map (eSl 28 1 (eFlt .f64)) x1)))]) tabOk Tryz.func13 rfl rfl Tryz.ntmps13 rfl rfl rfl ?_
  refine sN (pS rfl (pI rfl (dn (AWp.seq (AWp.seq (rN (pS rfl (kC h rfl ⟨.inl rfl, trivial⟩ rfl fun x9 h => ?_))))))))
  refine pB rfl (pB rfl (sB 20 h (fun h => ?_) (fun h => ?_)))
  · refine fo 7 rfl (pB rfl (dn ?_))
    refine AWp.condT rfl ?_
    refine sN (pS rfl (pI rfl (dn (AWp.ret ?_))))
    exact ⟨_, rfl, _, h, rfl⟩
  refine pS rfl (al (((x1.length : Nat) : Int)) rfl (pS rfl (kI h map_get rfl rfl rfl rfl rfl rfl rfl fun x13 h => ?_)))
  refine pS rfl (al (((x13.length : Nat) : Int)) rfl (pB rfl (pB rfl (dn (cB h (fun h => ?_) (fun h => ?_))))))
  · refine sN (pS rfl (pI rfl (dn (AWp.ret ?_))))
    exact ⟨_, rfl, _, h, rfl⟩
  refine AWp.skip (AWp.seq ?_)
  refine AWp.regionL ?_
  refine NOps.split 1 (cf := (fun _ => false)) rfl ?_
  refine pS rfl (dn ?_)
  refine KN.callS h rfl rfl (fun _ h => h) rfl rfl rfl rfl ⟨.inl rfl, trivial⟩ fun x16 h => ?_
  refine NOps.tail (cf := (fun _ => false)) rfl rfl ?_
  refine pS rfl (dn (AWp.seq (AWp.seq (rN (pS rfl (kC h rfl ⟨.inl rfl, trivial⟩ rfl fun x17 h => ?_))))))
  refine pB rfl (dn (cB h (fun h => ?_) (fun h => ?_)))
  · refine sN (pS rfl (pI rfl (dn (AWp.ret ?_))))
    exact ⟨_, rfl, _, h, rfl⟩
  refine AWp.skip (AWp.seq (rN (pS rfl (kC h rfl ⟨.inl rfl, trivial⟩ rfl fun x19 h => ?_))))
  refine pS rfl (kC h rfl ⟨.inl rfl, trivial⟩ rfl fun x21 h => ?_)
  refine kC h rfl ⟨.inl rfl, .inl rfl, trivial⟩ rfl fun x23 h => pU rfl ?_
  refine pS rfl (pI rfl (pS rfl (pI rfl (dn (AWp.seq (rN (pS rfl (kC h rfl ⟨.inl rfl, trivial⟩ rfl fun x25 h => ?_))))))))
  refine pS rfl (dn (AWp.seq (rN (pS rfl (kC h rfl ⟨.inl rfl, trivial⟩ rfl fun x27 h => ?_)))))
  refine pU rfl (pF rfl (pI rfl (pF rfl (pI rfl (dn (AWp.seq (AWp.seq (rN (pF rfl (pB rfl (pB rfl (dn (cB h (fun h => ?_) (fun h => ?_))))))))))))))
  · refine sN (pS rfl (pI rfl (dn (AWp.ret ?_))))
    exact ⟨_, rfl, _, h, rfl⟩
  refine AWp.skip (AWp.seq (rN (pF rfl (pF rfl (kC h rfl ⟨.inl rfl, .inl rfl, .inl rfl, trivial⟩ rfl fun x29 h => ?_)))))
  refine kC h rfl ⟨.inl rfl, .inl rfl, .inl rfl, trivial⟩ rfl fun x31 h => pF rfl ?_
  refine dn (sN (pS rfl ?_))
  obtain ⟨x33, hc34, h⟩ := h
  refine AOps.callRR hc34 rfl rfl rfl rfl ⟨.inl rfl, trivial⟩ ?_
  refine pO rfl (dn (AWp.seq (AWp.seq (rN (pS rfl (al (((x16.length : Nat) : Int)) rfl (pI rfl (dn (AWp.block ?_)))))))))
  obtain ⟨I1934, x1935, hz1936, hr1937⟩ := h
  refine AWp.loop (I := fun p : (List (List GIval)) × Int => mkSt [(4, .dat (.sl 27 1 (List.map (eSl 28 1 (eFlt .f64)) x16))), (10, .dat (.v (.float .f64 x31))), (11, .oref 1011), (59, .dat (.v (.int .i64 ((x16.length : Nat) : Int)))), (60, .dat (.v (.int .i64 p.2)))] [(1011, .rr 33 35 2 (List.map (List.map GIval.enc) p.1) [])]) (Inv := fun p => I1934 p.1 p.2) (μ := fun p => x1935 p.1 p.2) (x0 := ⟨x33, (0 : Int)⟩) hz1936 (slf (fun i => (if Nat.beq i 1011 then 57 else i))) (fun p hp => ?_)
  obtain ⟨x1460, x1461⟩ := p
  have h := hr1937 x1460 x1461 hp
  refine sN (pW rfl (dn (AWp.seq (cB h (fun h => ?_) (fun h => ?_)))))
  · refine AWp.skip (AWp.seq (AWp.block (AWp.seq (rN (pI rfl (pI rfl (dn (AWp.seq (rN (pF rfl (dn (AWp.seq (AWp.seq (rN (pS rfl (al (((x16.length : Nat) : Int)) rfl (pI rfl (dn (AWp.block ?_)))))))))))))))))))
    obtain ⟨I1930, x1931, hz1932, hr1933⟩ := h
    refine AWp.loop (I := fun p : Nat × Int => mkSt [(4, .dat (.sl 27 1 (List.map (eSl 28 1 (eFlt .f64)) x16))), (10, .dat (.v (.float .f64 x31))), (11, .oref 1011), (12, .dat (.v (.int .i64 x1461))), (13, .dat (.v (.float .f64 p.1))), (59, .dat (.v (.int .i64 ((x16.length : Nat) : Int)))), (60, .dat (.v (.int .i64 x1461))), (64, .dat (.v (.int .i64 ((x16.length : Nat) : Int)))), (65, .dat (.v (.int .i64 p.2)))] [(1011, .rr 33 35 2 (List.map (List.map GIval.enc) x1460) [])]) (Inv := fun p => I1930 p.1 p.2) (μ := fun p => x1931 p.1 p.2) (x0 := ⟨(0 : Nat), (0 : Int)⟩) hz1932 sl (fun p hp => ?_)
    obtain ⟨x1769, x1770⟩ := p
    have h := hr1933 x1769 x1770 hp
    refine sN (pW rfl (dn (AWp.seq (cB h (fun h => ?_) (fun h => ?_)))))
    · refine AWp.skip (AWp.seq (AWp.block (AWp.seq (rN (pI rfl (pI rfl (dn (rN (pF rfl (pS rfl (pI rfl (kI h map_get rfl rfl rfl rfl rfl rfl rfl fun x1782 h => ?_))))))))))))
      refine pS rfl (pI rfl (kI h map_get rfl rfl rfl rfl rfl rfl rfl fun x1785 h => ?_))
      refine pF rfl (kC h rfl ⟨.inl rfl, trivial⟩ rfl fun x1787 h => ?_)
      obtain ⟨hq, x1789, ex1789, h⟩ := h.get
      refine AOps.v rfl rfl (Step.fmax rfl rfl rfl hq ex1789) ?_
      refine pF rfl (dn (rN ?_))
      obtain ⟨x1790, ex1790, h⟩ := h.get
      refine ai ex1790 rfl (pI rfl (dn ?_))
      exact ⟨⟨x1789, x1790⟩, h.1, h.2, sl⟩
    refine AWp.exit ?_
    refine sN (pF rfl (pF rfl (kC h rfl ⟨.inl rfl, .inl rfl, .inl rfl, trivial⟩ rfl fun x1791 h => ?_)))
    refine pF rfl (dn (AWp.seq (rN (pS rfl (al (((x16.length : Nat) : Int)) rfl (pI rfl (dn (AWp.block ?_))))))))
    obtain ⟨I1926, x1927, hz1928, hr1929⟩ := h
    refine AWp.loop (I := fun p : (List (List GIval)) × Int => mkSt [(4, .dat (.sl 27 1 (List.map (eSl 28 1 (eFlt .f64)) x16))), (10, .dat (.v (.float .f64 x31))), (11, .oref 1011), (12, .dat (.v (.int .i64 x1461))), (15, .dat (.v (.float .f64 x1791))), (59, .dat (.v (.int .i64 ((x16.length : Nat) : Int)))), (60, .dat (.v (.int .i64 x1461))), (83, .dat (.v (.int .i64 ((x16.length : Nat) : Int)))), (84, .dat (.v (.int .i64 p.2)))] [(1011, .rr 33 35 2 (List.map (List.map GIval.enc) p.1) [])]) (Inv := fun p => I1926 p.1 p.2) (μ := fun p => x1927 p.1 p.2) (x0 := ⟨x1460, (0 : Int)⟩) hz1928 sl (fun p hp => ?_)
    obtain ⟨x1859, x1860⟩ := p
    have h := hr1929 x1859 x1860 hp
    refine sN (pW rfl (dn (AWp.seq (cB h (fun h => ?_) (fun h => ?_)))))
    · refine AWp.skip (AWp.seq (AWp.block (AWp.seq (rN (pI rfl (pI rfl (dn (AWp.seq ?_))))))))
      obtain ⟨hi1893, x1894, hx1895, h⟩ := h
      refine AWp.sub (Sub.lend (id := 1011) (d := 6895) (m := (Int.toNat x1860)) rfl rfl (mm_get hx1895) holeAt_nil) ?_
      refine rE [(11, [1011]), (12, []), (15, []), (16, []), (87, [1011]), (88, []), (91, []), (92, [1011]), (93, []), (96, []), (101, [])] (pO rfl (pI rfl ?_))
      refine AOps.idxrr tabOk rfl rfl rfl rfl rfl rfl rfl rfl hi1893 (mm_lt hi1893 hx1895) rfl ?_
      refine AOps.loadrr tabOk rfl rfl rfl rfl rfl rfl rfl (mm_lt2 hx1895) holeAt_hd ?_
      refine pI rfl (pO rfl (pI rfl ?_))
      refine AOps.idxrr tabOk rfl rfl rfl rfl rfl rfl rfl rfl hi1893 (mm_lt hi1893 hx1895) rfl ?_
      refine AOps.loadrr tabOk rfl rfl rfl rfl rfl rfl rfl (mm_lt2 hx1895) holeAt_hd ?_
      refine pI rfl ?_
      obtain ⟨hi1902, x1903, hx1904, h⟩ := h
      refine AOps.idxown tabOk rfl rfl rfl rfl rfl rfl rfl rfl hi1902 (map_lt hi1902 hx1904) rfl ?_
      refine AOps.loadrow tabOk rfl rfl rfl rfl rfl rfl rfl (map_get hx1904) rfl ?_
      refine pF rfl ?_
      obtain ⟨x1905, ex1905, h⟩ := h.get
      refine AOps.fl tabOk rfl rfl rfl ex1905 ?_
      refine pF rfl (kC h rfl ⟨.inl rfl, .inl rfl, trivial⟩ rfl fun x1906 h => ?_)
      refine kC h rfl ⟨.inl rfl, .inl rfl, trivial⟩ rfl fun x1908 h => ?_
      obtain ⟨hi1910, x1911, hx1912, h⟩ := h
      refine AOps.idxown tabOk rfl rfl rfl rfl rfl rfl rfl rfl hi1910 (map_lt hi1910 hx1912) rfl ?_
      refine AOps.storerow tabOk rfl rfl rfl rfl rfl rfl rfl rfl (map_lt2 hx1912) rfl rfl rfl (map_set1 (e := GIval.enc) (x := x1908)) ?_
      refine dn (AWp.sub (Sub.unlend (id := 1011) (d := 6895) (m := (Int.toNat x1860)) rfl rfl holeAt_nil mm_set) ?_)
      refine AWp.seq ?_
      obtain ⟨hi1913, x1914, hx1915, h⟩ := h
      refine AWp.sub (Sub.lend (id := 1011) (d := 6915) (m := (Int.toNat x1860)) rfl rfl (mm_get hx1915) holeAt_nil) ?_
      refine rD (pO rfl (pI rfl ?_))
      refine AOps.idxrr tabOk rfl rfl rfl rfl rfl rfl rfl rfl hi1913 (mm_lt hi1913 hx1915) rfl ?_
      refine AOps.loadrr tabOk rfl rfl rfl rfl rfl rfl rfl (mm_lt2 hx1915) holeAt_hd ?_
      refine pI rfl ?_
      obtain ⟨hi1919, x1920, hx1921, h⟩ := h
      refine AOps.idxown tabOk rfl rfl rfl rfl rfl rfl rfl rfl hi1919 (map_lt hi1919 hx1921) rfl ?_
      refine AOps.loadrow tabOk rfl rfl rfl rfl rfl rfl rfl (map_get hx1921) rfl ?_
      refine kC h rfl trivial rfl fun x1922 h => ?_
      refine AOps.eqs rfl rfl rfl rfl rfl rfl rfl (by decide +kernel) (GIval.eqok35 _ x1920 x1922) ?_
      refine dn (AWp.sub (Sub.unlend (id := 1011) (d := 6915) (m := (Int.toNat x1860)) rfl rfl holeAt_nil mm_set) ?_)
      refine cB h (fun h => ?_) (fun h => ?_)
      · refine sN (pS rfl (pI rfl (dn (AWp.ret ?_))))
        exact ⟨_, rfl, _, h, rfl⟩
      refine AWp.skip (rN ?_)
      obtain ⟨x1924, ex1924, h⟩ := h.get
      refine ai ex1924 rfl (pI rfl (dn ?_))
      exact ⟨⟨(List.set (List.set x1859 (Int.toNat x1860) (List.set x1894 (Int.toNat x1461) x1908)) (Int.toNat x1860) x1914), x1924⟩, h.1, h.2, sl⟩
    refine AWp.exit ?_
    refine rN ?_
    obtain ⟨x1925, ex1925, h⟩ := h.get
    refine ai ex1925 rfl (pI rfl (dn ?_))
    exact ⟨⟨x1859, x1925⟩, h.1, h.2, sl⟩
  refine AWp.exit ?_
  refine sN (pO rfl (pO rfl (pI rfl (dn ?_))))
  refine AWp.freezerr 2 1011 rfl rfl mm_sl ?_
  refine AWp.ret ?_
  exact ⟨_, rfl, _, h, rfl⟩
def W_lin_lessOne (m1 : List (List GIval)) (Q : List (List GIval) → Prop) : Prop :=
 Call (EvR_lin_One ((m1.length : Nat) : Int)) fun x3 =>
 Loop2 x3 (0 : Int) (fun (out680 : List (List GIval)) (x681 : Int) next682 =>
  Br (decide (x681 < ((x3.length : Nat) : Int))) (
   At out680 x681 fun x794 =>
   Loop2 (List.set out680 (Int.toNat x681) x794) (0 : Int) (fun (out849 : List (List GIval)) (x850 : Int) next851 =>
    Br (decide (x850 < ((x794.length : Nat) : Int))) (
     At out849 x681 fun x876 =>
     At x876 x850 fun x885 =>
     At m1 x681 fun x888 =>
     At x888 x850 fun x891 =>
     Call (Ev_ival_Sub x885 x891) fun x893 =>
     At x876 x850 fun x896 =>
     Let (IntKind.i64.wrap (x850 + (1 : Int))) fun x898 =>
     next851 (List.set out849 (Int.toNat x681) (List.set x876 (Int.toNat x850) x893)) x898) (
     Let (IntKind.i64.wrap (x681 + (1 : Int))) fun x899 =>
     next682 out849 x899))) (
   Q out680))
theorem walk_lin_lessOne {m1 : List (List GIval)} {r : List (List GIval)} (h : W_lin_lessOne m1 (fun r' => r' = r)) : Ev_lin_lessOne m1 r := by
  unfold W_lin_lessOne at h
  refine intr (L := [(0, .dat (.sl 33 1 (List.map (eSl 35 2 GIval.enc) m1)))]) Tryz.func35 Tryz.ntmps35 ?_
  refine sN (pS rfl (dn (AWp.seq (rN (pS rfl (al (((m1.length : Nat) : Int)) rfl ?_))))))
  obtain ⟨x3, hc4, h⟩ := h
  refine AOps.callRR hc4 rfl rfl rfl rfl ⟨.inl rfl, trivial⟩ ?_
  refine pO rfl (dn (AWp.seq (AWp.seq (rN (pO rfl (al (((x3.length : Nat) : Int)) rfl (pI rfl (dn (AWp.block ?_)))))))))
  obtain ⟨I904, x905, hz906, hr907⟩ := h
  refine AWp.loop (I := fun p : (List (List GIval)) × Int => mkSt [(0, .dat (.sl 33 1 (List.map (eSl 35 2 GIval.enc) m1))), (3, .oref 1003), (10, .dat (.v (.int .i64 ((x3.length : Nat) : Int)))), (11, .dat (.v (.int .i64 p.2)))] [(1003, .rr 33 35 2 (List.map (List.map GIval.enc) p.1) [])]) (Inv := fun p => I904 p.1 p.2) (μ := fun p => x905 p.1 p.2) (x0 := ⟨x3, (0 : Int)⟩) hz906 (slf (fun i => (if Nat.beq i 1003 then 8 else i))) (fun p hp => ?_)
  obtain ⟨out680, x681⟩ := p
  have h := hr907 out680 x681 hp
  refine sN (pW rfl (dn (AWp.seq (cB h (fun h => ?_) (fun h => ?_)))))
  · refine AWp.skip (AWp.seq (AWp.block (AWp.seq (rN (pI rfl (pI rfl (dn (AWp.seq ?_))))))))
    obtain ⟨hi793, x794, hx795, h⟩ := h
    refine AWp.sub (Sub.lend (id := 1003) (d := 5795) (m := (Int.toNat x681)) rfl rfl (mm_get hx795) holeAt_nil) ?_
    refine rN (pO rfl (pI rfl ?_))
    refine AOps.idxrr tabOk rfl rfl rfl rfl rfl rfl rfl rfl hi793 (mm_lt hi793 hx795) rfl ?_
    refine AOps.loadrr tabOk rfl rfl rfl rfl rfl rfl rfl (mm_lt2 hx795) holeAt_hd ?_
    refine al (((x794.length : Nat) : Int)) rfl (pI rfl (dn ?_))
    refine AWp.sub (Sub.unlend (id := 1003) (d := 5795) (m := (Int.toNat x681)) rfl rfl holeAt_nil mm_set) ?_
    refine AWp.block ?_
    obtain ⟨I900, x901, hz902, hr903⟩ := h
    refine AWp.loop (I := fun p : (List (List GIval)) × Int => mkSt [(0, .dat (.sl 33 1 (List.map (eSl 35 2 GIval.enc) m1))), (3, .oref 1003), (4, .dat (.v (.int .i64 x681))), (10, .dat (.v (.int .i64 ((x3.length : Nat) : Int)))), (11, .dat (.v (.int .i64 x681))), (18, .dat (.v (.int .i64 ((x794.length : Nat) : Int)))), (19, .dat (.v (.int .i64 p.2)))] [(1003, .rr 33 35 2 (List.map (List.map GIval.enc) p.1) [])]) (Inv := fun p => I900 p.1 p.2) (μ := fun p => x901 p.1 p.2) (x0 := ⟨(List.set out680 (Int.toNat x681) x794), (0 : Int)⟩) hz902 sl (fun p hp => ?_)
    obtain ⟨out849, x850⟩ := p
    have h := hr903 out849 x850 hp
    refine sN (pW rfl (dn (AWp.seq (cB h (fun h => ?_) (fun h => ?_)))))
    · refine AWp.skip (AWp.seq (AWp.block (AWp.seq (rN (pI rfl (pI rfl (dn ?_)))))))
      obtain ⟨hi875, x876, hx877, h⟩ := h
      refine AWp.sub (Sub.lend (id := 1003) (d := 5877) (m := (Int.toNat x681)) rfl rfl (mm_get hx877) holeAt_nil) ?_
      refine rE [(0, []), (3, [1003]), (4, []), (5, []), (22, [1003]), (23, []), (26, []), (27, [1003]), (28, []), (31, []), (34, []), (35, []), (38, [])] (pO rfl (pI rfl ?_))
      refine AOps.idxrr tabOk rfl rfl rfl rfl rfl rfl rfl rfl hi875 (mm_lt hi875 hx877) rfl ?_
      refine AOps.loadrr tabOk rfl rfl rfl rfl rfl rfl rfl (mm_lt2 hx877) holeAt_hd ?_
      refine pI rfl (pO rfl (pI rfl ?_))
      refine AOps.idxrr tabOk rfl rfl rfl rfl rfl rfl rfl rfl hi875 (mm_lt hi875 hx877) rfl ?_
      refine AOps.loadrr tabOk rfl rfl rfl rfl rfl rfl rfl (mm_lt2 hx877) holeAt_hd ?_
      refine pI rfl ?_
      obtain ⟨hi884, x885, hx886, h⟩ := h
      refine AOps.idxown tabOk rfl rfl rfl rfl rfl rfl rfl rfl hi884 (map_lt hi884 hx886) rfl ?_
      refine AOps.loadrow tabOk rfl rfl rfl rfl rfl rfl rfl (map_get hx886) rfl ?_
      refine pS rfl (pI rfl (kI h map_get rfl rfl rfl rfl rfl rfl rfl fun x888 h => ?_))
      refine pS rfl (pI rfl (kI h map_get rfl rfl rfl rfl rfl rfl rfl fun x891 h => ?_))
      refine pT rfl (kC h rfl ⟨.inl rfl, .inl rfl, trivial⟩ rfl fun x893 h => ?_)
      obtain ⟨hi895, x896, hx897, h⟩ := h
      refine AOps.idxown tabOk rfl rfl rfl rfl rfl rfl rfl rfl hi895 (map_lt hi895 hx897) rfl ?_
      refine AOps.storerow tabOk rfl rfl rfl rfl rfl rfl rfl rfl (map_lt2 hx897) rfl rfl rfl (map_set1 (e := GIval.enc) (x := x893)) ?_
      refine dn (AWp.sub (Sub.unlend (id := 1003) (d := 5877) (m := (Int.toNat x681)) rfl rfl holeAt_nil mm_set) ?_)
      refine rN ?_
      obtain ⟨x898, ex898, h⟩ := h.get
      refine ai ex898 rfl (pI rfl (dn ?_))
      exact ⟨⟨(List.set out849 (Int.toNat x681) (List.set x876 (Int.toNat x850) x893)), x898⟩, h.1, h.2, sl⟩
    refine AWp.exit ?_
    refine rN ?_
    obtain ⟨x899, ex899, h⟩ := h.get
    refine ai ex899 rfl (pI rfl (dn ?_))
    exact ⟨⟨out849, x899⟩, h.1, h.2, sl⟩
  refine AWp.exit ?_
  refine sN (pO rfl (pO rfl (dn ?_)))
  refine AWp.freezerr 2 1003 rfl rfl mm_sl ?_
  subst h; exact AWp.ret ⟨_, rfl, rfl⟩
def W_law04_square (a1 : List (List Nat)) (Q : Bool → Prop) : Prop :=
 Call (Ev_ref04_Floats a1) fun x9 =>
 Br x9 (
  At a1 (0 : Int) fun x13 =>
  Q (((a1.length : Nat) : Int) == ((x13.length : Nat) : Int))) (
  Q false)
theorem walk_law04_square {a1 : List (List Nat)} {r : Bool} (h : W_law04_square a1 (fun r' => r' = r)) : Ev_law04_square a1 r := by
  unfold W_law04_square at h
  refine intr (L := [(0, .dat (.sl 27 1 (List.map (eSl 28 1 (eFlt .f64)) a1)))]) Tryz.func6 Tryz.ntmps6 ?_
  refine sN (pB rfl (dn (AWp.seq (rN (pS rfl (kC h rfl ⟨.inl rfl, trivial⟩ rfl fun x9 h => ?_))))))
  refine pB rfl (sB 5 h (fun h => ?_) (fun h => ?_))
  · refine pS rfl (al (((a1.length : Nat) : Int)) rfl (pS rfl (kI h map_get rfl rfl rfl rfl rfl rfl rfl fun x13 h => ?_)))
    refine pS rfl (al (((x13.length : Nat) : Int)) rfl (pB rfl (pB rfl (pB rfl (dn (AWp.ret ?_))))))
    subst h
    exact ⟨_, rfl, rfl⟩
  refine fo 7 rfl (pB rfl (pB rfl (dn (AWp.ret ?_))))
  subst h
  exact ⟨_, rfl, rfl⟩
end Go.Sim.YtlkpbnhinnhlfaaGreat
