/- What is proved: functions of the program compute what plain statements tell. -/
import Derived.Test.YtlkpbnhinnhlfaaZSHWE

namespace Go.Sim.Ytlkpbnhinnhlfaa
open Go.RowKit Go.Proofs Go.Proofs.Try
set_option maxRecDepth 100000
def W_lin_Inverse (x1 : List (List Nat)) (Q : (List (List GIval)) × Int → Prop) : Prop :=
 Call (Ev_lin_floats x1) fun x9 =>
 Br (!x9) (Q (([] : List (List GIval)), (1 : Int))) (
  At x1 (0 : Int) fun x13 =>
  Br (((x1.length : Nat) : Int) != ((x13.length : Nat) : Int)) (Q (([] : List (List GIval)), (1 : Int))) (
   CallS (EvS_lin_nearly x1) fun x16 =>
   Call (Ev_lin_floats x16) fun x17 =>
   Br (!x17) (Q (([] : List (List GIval)), (40 : Int))) (
    Call (Ev_lin_Points x16) fun x19 =>
    Call (Ev_lin_Points x1) fun x21 =>
    Call (Ev_lin_Mul x19 x21) fun x23 =>
    Call (Ev_lin_lessOne x23.1) fun x25 =>
    Call (Ev_lin_Norm x25) fun x27 =>
    Br (!(FloatKind.f64.format.order x27.1 (4602678819172646912 : Nat) == some .lt)) (Q (([] : List (List GIval)), (40 : Int))) (
     Call (Ev_ulp_Sub (4607182418800017408 : Nat) x27.1 (-1 : Int)) fun x29 =>
     Call (Ev_ulp_Div x27.1 x29 (1 : Int)) fun x31 =>
     Call (EvR_lin_Points x16) fun x33 =>
     Loop2 x33 (0 : Int) (fun (x1460 : List (List GIval)) (x1461 : Int) next1462 =>
      Br (decide (x1461 < ((x16.length : Nat) : Int))) (
       Loop2 (0 : Nat) (0 : Int) (fun (x1769 : Nat) (x1770 : Int) next1771 =>
        Br (decide (x1770 < ((x16.length : Nat) : Int))) (
         At x16 x1770 fun x1782 =>
         At x1782 x1461 fun x1785 =>
         Call (Ev_math_Abs x1785) fun x1787 =>
         FMx x1769 x1787 fun x1789 =>
         Let (IntKind.i64.wrap (x1770 + (1 : Int))) fun x1790 =>
         next1771 x1789 x1790) (
         Call (Ev_ulp_Mul x31 x1769 (1 : Int)) fun x1791 =>
         Loop2 x1460 (0 : Int) (fun (x1859 : List (List GIval)) (x1860 : Int) next1861 =>
          Br (decide (x1860 < ((x16.length : Nat) : Int))) (
           At x1859 x1860 fun x1894 =>
           At x1894 x1461 fun x1903 =>
           Let (Op.negFloat .f64 x1791) fun x1905 =>
           Call (Ev_ival_Make x1905 x1791) fun x1906 =>
           Call (Ev_ival_Add x1903 x1906) fun x1908 =>
           At x1894 x1461 fun x1911 =>
           At (List.set x1859 (Int.toNat x1860) (List.set x1894 (Int.toNat x1461) x1908)) x1860 fun x1914 =>
           At x1914 x1461 fun x1920 =>
           Call (Ev_ival_Empty) fun x1922 =>
           Br (GIval.beq x1920 x1922) (Q (([] : List (List GIval)), (40 : Int))) (
            Let (IntKind.i64.wrap (x1860 + (1 : Int))) fun x1924 =>
            next1861 (List.set (List.set x1859 (Int.toNat x1860) (List.set x1894 (Int.toNat x1461) x1908)) (Int.toNat x1860) x1914) x1924)) (
           Let (IntKind.i64.wrap (x1461 + (1 : Int))) fun x1925 =>
           next1462 x1859 x1925))))) (
       Q (x1460, (0 : Int))))))))
theorem walkS_lin_Inverse {x1 : List (List Nat)} {R : (List (List GIval)) × Int → Prop} (h : W_lin_Inverse x1 R) : EvS_lin_Inverse x1 R := by
  unfold W_lin_Inverse at h
  refine AFnS.intro' (L := [(0, .dat (.sl 24 1 (List.map (eSl 42 1 (eFlt .f64)) x1)))]) tabOk Try.func5 rfl rfl Try.ntmps5 rfl rfl rfl ?_
  refine sN (pS rfl (pI rfl (dn (AWp.seq (AWp.seq (rN (pS rfl (kC h rfl ⟨.inl rfl, trivial⟩ rfl fun x9 h => ?_))))))))
  refine pB rfl (pB rfl (sB 20 h (fun h => ?_) (fun h => ?_)))
  · refine fo 7 rfl (pB rfl (dn ?_))
    refine AWp.condT rfl ?_
    refine sN (pS rfl (pI rfl (dn (AWp.ret ?_))))
    exact ⟨_, rfl, _, h, rfl⟩
  refine pS rfl (al (((x1.length : Nat) : Int)) rfl (pS rfl (kI h map_get rfl rfl rfl rfl rfl rfl rfl fun x13 h => ?_)))
  refine pS rfl (al (((x13.length : Nat) : Int)) rfl (pB rfl (pB rfl (dn (cB h (fun h => ?_) (fun h => ?_))))))
  · refine sN (pS rfl (pI rfl (dn (AWp.ret ?_))))
    exact ⟨_, rfl, _, h, rfl⟩
  refine AWp.skip (AWp.seq ?_)
  refine AWp.regionL ?_
  refine NOps.split 1 (cf := (fun _ => false)) rfl ?_
  refine pS rfl (dn ?_)
  refine KN.callS h rfl rfl (fun _ h => h) rfl rfl rfl rfl ⟨.inl rfl, trivial⟩ fun x16 h => ?_
  refine NOps.tail (cf := (fun _ => false)) rfl rfl ?_
  refine pS rfl (dn (AWp.seq (AWp.seq (rN (pS rfl (kC h rfl ⟨.inl rfl, trivial⟩ rfl fun x17 h => ?_))))))
  refine pB rfl (dn (cB h (fun h => ?_) (fun h => ?_)))
  · refine sN (pS rfl (pI rfl (dn (AWp.ret ?_))))
    exact ⟨_, rfl, _, h, rfl⟩
  refine AWp.skip (AWp.seq (rN (pS rfl (kC h rfl ⟨.inl rfl, trivial⟩ rfl fun x19 h => ?_))))
  refine pS rfl (kC h rfl ⟨.inl rfl, trivial⟩ rfl fun x21 h => ?_)
  refine kC h rfl ⟨.inl rfl, .inl rfl, trivial⟩ rfl fun x23 h => pU rfl ?_
  refine pS rfl (pI rfl (pS rfl (pI rfl (dn (AWp.seq (rN (pS rfl (kC h rfl ⟨.inl rfl, trivial⟩ rfl fun x25 h => ?_))))))))
  refine pS rfl (dn (AWp.seq (rN (pS rfl (kC h rfl ⟨.inl rfl, trivial⟩ rfl fun x27 h => ?_)))))
  refine pU rfl (pF rfl (pI rfl (pF rfl (pI rfl (dn (AWp.seq (AWp.seq (rN (pF rfl (pB rfl (pB rfl (dn (cB h (fun h => ?_) (fun h => ?_))))))))))))))
  · refine sN (pS rfl (pI rfl (dn (AWp.ret ?_))))
    exact ⟨_, rfl, _, h, rfl⟩
  refine AWp.skip (AWp.seq (rN (pF rfl (pF rfl (kC h rfl ⟨.inl rfl, .inl rfl, .inl rfl, trivial⟩ rfl fun x29 h => ?_)))))
  refine kC h rfl ⟨.inl rfl, .inl rfl, .inl rfl, trivial⟩ rfl fun x31 h => pF rfl ?_
  refine dn (sN (pS rfl ?_))
  obtain ⟨x33, hc34, h⟩ := h
  refine AOps.callRR hc34 rfl rfl rfl rfl ⟨.inl rfl, trivial⟩ ?_
  refine pO rfl (dn (AWp.seq (AWp.seq (rN (pS rfl (al (((x16.length : Nat) : Int)) rfl (pI rfl (dn (AWp.block ?_)))))))))
  obtain ⟨I1934, x1935, hz1936, hr1937⟩ := h
  refine AWp.loop (I := fun p : (List (List GIval)) × Int => mkSt [(4, .dat (.sl 24 1 (List.map (eSl 42 1 (eFlt .f64)) x16))), (10, .dat (.v (.float .f64 x31))), (11, .oref 1011), (59, .dat (.v (.int .i64 ((x16.length : Nat) : Int)))), (60, .dat (.v (.int .i64 p.2)))] [(1011, .rr 50 48 2 (List.map (List.map GIval.enc) p.1) [])]) (Inv := fun p => I1934 p.1 p.2) (μ := fun p => x1935 p.1 p.2) (x0 := ⟨x33, (0 : Int)⟩) hz1936 (slf (fun i => (if Nat.beq i 1011 then 57 else i))) (fun p hp => ?_)
  obtain ⟨x1460, x1461⟩ := p
  have h := hr1937 x1460 x1461 hp
  refine sN (pW rfl (dn (AWp.seq (cB h (fun h => ?_) (fun h => ?_)))))
  · refine AWp.skip (AWp.seq (AWp.block (AWp.seq (rN (pI rfl (pI rfl (dn (AWp.seq (rN (pF rfl (dn (AWp.seq (AWp.seq (rN (pS rfl (al (((x16.length : Nat) : Int)) rfl (pI rfl (dn (AWp.block ?_)))))))))))))))))))
    obtain ⟨I1930, x1931, hz1932, hr1933⟩ := h
    refine AWp.loop (I := fun p : Nat × Int => mkSt [(4, .dat (.sl 24 1 (List.map (eSl 42 1 (eFlt .f64)) x16))), (10, .dat (.v (.float .f64 x31))), (11, .oref 1011), (12, .dat (.v (.int .i64 x1461))), (13, .dat (.v (.float .f64 p.1))), (59, .dat (.v (.int .i64 ((x16.length : Nat) : Int)))), (60, .dat (.v (.int .i64 x1461))), (64, .dat (.v (.int .i64 ((x16.length : Nat) : Int)))), (65, .dat (.v (.int .i64 p.2)))] [(1011, .rr 50 48 2 (List.map (List.map GIval.enc) x1460) [])]) (Inv := fun p => I1930 p.1 p.2) (μ := fun p => x1931 p.1 p.2) (x0 := ⟨(0 : Nat), (0 : Int)⟩) hz1932 sl (fun p hp => ?_)
    obtain ⟨x1769, x1770⟩ := p
    have h := hr1933 x1769 x1770 hp
    refine sN (pW rfl (dn (AWp.seq (cB h (fun h => ?_) (fun h => ?_)))))
    · refine AWp.skip (AWp.seq (AWp.block (AWp.seq (rN (pI rfl (pI rfl (dn (rN (pF rfl (pS rfl (pI rfl (kI h map_get rfl rfl rfl rfl rfl rfl rfl fun x1782 h => ?_))))))))))))
      refine pS rfl (pI rfl (kI h map_get rfl rfl rfl rfl rfl rfl rfl fun x1785 h => ?_))
      refine pF rfl (kC h rfl ⟨.inl rfl, trivial⟩ rfl fun x1787 h => ?_)
      obtain ⟨hq, x1789, ex1789, h⟩ := h.get
      refine AOps.v rfl rfl (Step.fmax rfl rfl rfl hq ex1789) ?_
      refine pF rfl (dn (rN ?_))
      obtain ⟨x1790, ex1790, h⟩ := h.get
      refine ai ex1790 rfl (pI rfl (dn ?_))
      exact ⟨⟨x1789, x1790⟩, h.1, h.2, sl⟩
    refine AWp.exit ?_
    refine sN (pF rfl (pF rfl (kC h rfl ⟨.inl rfl, .inl rfl, .inl rfl, trivial⟩ rfl fun x1791 h => ?_)))
    refine pF rfl (dn (AWp.seq (rN (pS rfl (al (((x16.length : Nat) : Int)) rfl (pI rfl (dn (AWp.block ?_))))))))
    obtain ⟨I1926, x1927, hz1928, hr1929⟩ := h
    refine AWp.loop (I := fun p : (List (List GIval)) × Int => mkSt [(4, .dat (.sl 24 1 (List.map (eSl 42 1 (eFlt .f64)) x16))), (10, .dat (.v (.float .f64 x31))), (11, .oref 1011), (12, .dat (.v (.int .i64 x1461))), (15, .dat (.v (.float .f64 x1791))), (59, .dat (.v (.int .i64 ((x16.length : Nat) : Int)))), (60, .dat (.v (.int .i64 x1461))), (83, .dat (.v (.int .i64 ((x16.length : Nat) : Int)))), (84, .dat (.v (.int .i64 p.2)))] [(1011, .rr 50 48 2 (List.map (List.map GIval.enc) p.1) [])]) (Inv := fun p => I1926 p.1 p.2) (μ := fun p => x1927 p.1 p.2) (x0 := ⟨x1460, (0 : Int)⟩) hz1928 sl (fun p hp => ?_)
    obtain ⟨x1859, x1860⟩ := p
    have h := hr1929 x1859 x1860 hp
    refine sN (pW rfl (dn (AWp.seq (cB h (fun h => ?_) (fun h => ?_)))))
    · refine AWp.skip (AWp.seq (AWp.block (AWp.seq (rN (pI rfl (pI rfl (dn (AWp.seq ?_))))))))
      obtain ⟨hi1893, x1894, hx1895, h⟩ := h
      refine AWp.sub (Sub.lend (id := 1011) (d := 6895) (m := (Int.toNat x1860)) rfl rfl (mm_get hx1895) holeAt_nil) ?_
      refine rE [(11, [1011]), (12, []), (15, []), (16, []), (87, [1011]), (88, []), (91, []), (92, [1011]), (93, []), (96, []), (101, [])] (pO rfl (pI rfl ?_))
      refine AOps.idxrr tabOk rfl rfl rfl rfl rfl rfl rfl rfl hi1893 (mm_lt hi1893 hx1895) rfl ?_
      refine AOps.loadrr tabOk rfl rfl rfl rfl rfl rfl rfl (mm_lt2 hx1895) holeAt_hd ?_
      refine pI rfl (pO rfl (pI rfl ?_))
      refine AOps.idxrr tabOk rfl rfl rfl rfl rfl rfl rfl rfl hi1893 (mm_lt hi1893 hx1895) rfl ?_
      refine AOps.loadrr tabOk rfl rfl rfl rfl rfl rfl rfl (mm_lt2 hx1895) holeAt_hd ?_
      refine pI rfl ?_
      obtain ⟨hi1902, x1903, hx1904, h⟩ := h
      refine AOps.idxown tabOk rfl rfl rfl rfl rfl rfl rfl rfl hi1902 (map_lt hi1902 hx1904) rfl ?_
      refine AOps.loadrow tabOk rfl rfl rfl rfl rfl rfl rfl (map_get hx1904) rfl ?_
      refine pF rfl ?_
      obtain ⟨x1905, ex1905, h⟩ := h.get
      refine AOps.fl tabOk rfl rfl rfl ex1905 ?_
      refine pF rfl (kC h rfl ⟨.inl rfl, .inl rfl, trivial⟩ rfl fun x1906 h => ?_)
      refine kC h rfl ⟨.inl rfl, .inl rfl, trivial⟩ rfl fun x1908 h => ?_
      obtain ⟨hi1910, x1911, hx1912, h⟩ := h
      refine AOps.idxown tabOk rfl rfl rfl rfl rfl rfl rfl rfl hi1910 (map_lt hi1910 hx1912) rfl ?_
      refine AOps.storerow tabOk rfl rfl rfl rfl rfl rfl rfl rfl (map_lt2 hx1912) rfl rfl rfl (map_set1 (e := GIval.enc) (x := x1908)) ?_
      refine dn (AWp.sub (Sub.unlend (id := 1011) (d := 6895) (m := (Int.toNat x1860)) rfl rfl holeAt_nil mm_set) ?_)
      refine AWp.seq ?_
      obtain ⟨hi1913, x1914, hx1915, h⟩ := h
      refine AWp.sub (Sub.lend (id := 1011) (d := 6915) (m := (Int.toNat x1860)) rfl rfl (mm_get hx1915) holeAt_nil) ?_
      refine rD (pO rfl (pI rfl ?_))
      refine AOps.idxrr tabOk rfl rfl rfl rfl rfl rfl rfl rfl hi1913 (mm_lt hi1913 hx1915) rfl ?_
      refine AOps.loadrr tabOk rfl rfl rfl rfl rfl rfl rfl (mm_lt2 hx1915) holeAt_hd ?_
      refine pI rfl ?_
      obtain ⟨hi1919, x1920, hx1921, h⟩ := h
      refine AOps.idxown tabOk rfl rfl rfl rfl rfl rfl rfl rfl hi1919 (map_lt hi1919 hx1921) rfl ?_
      refine AOps.loadrow tabOk rfl rfl rfl rfl rfl rfl rfl (map_get hx1921) rfl ?_
      refine kC h rfl trivial rfl fun x1922 h => ?_
      refine AOps.eqs rfl rfl rfl rfl rfl rfl rfl (by decide +kernel) (GIval.eqok48 _ x1920 x1922) ?_
      refine dn (AWp.sub (Sub.unlend (id := 1011) (d := 6915) (m := (Int.toNat x1860)) rfl rfl holeAt_nil mm_set) ?_)
      refine cB h (fun h => ?_) (fun h => ?_)
      · refine sN (pS rfl (pI rfl (dn (AWp.ret ?_))))
        exact ⟨_, rfl, _, h, rfl⟩
      refine AWp.skip (rN ?_)
      obtain ⟨x1924, ex1924, h⟩ := h.get
      refine ai ex1924 rfl (pI rfl (dn ?_))
      exact ⟨⟨(List.set (List.set x1859 (Int.toNat x1860) (List.set x1894 (Int.toNat x1461) x1908)) (Int.toNat x1860) x1914), x1924⟩, h.1, h.2, sl⟩
    refine AWp.exit ?_
    refine rN ?_
    obtain ⟨x1925, ex1925, h⟩ := h.get
    refine ai ex1925 rfl (pI rfl (dn ?_))
    exact ⟨⟨x1859, x1925⟩, h.1, h.2, sl⟩
  refine AWp.exit ?_
  refine sN (pO rfl (pO rfl (pI rfl (dn ?_))))
  refine AWp.freezerr 2 1011 rfl rfl mm_sl ?_
  refine AWp.ret ?_
  exact ⟨_, rfl, _, h, rfl⟩
def W_lin_lessOne (m1 : List (List GIval)) (Q : List (List GIval) → Prop) : Prop :=
 Call (EvR_lin_One ((m1.length : Nat) : Int)) fun x3 =>
 Loop2 x3 (0 : Int) (fun (out680 : List (List GIval)) (x681 : Int) next682 =>
  Br (decide (x681 < ((x3.length : Nat) : Int))) (
   At out680 x681 fun x794 =>
   Loop2 (List.set out680 (Int.toNat x681) x794) (0 : Int) (fun (out849 : List (List GIval)) (x850 : Int) next851 =>
    Br (decide (x850 < ((x794.length : Nat) : Int))) (
     At out849 x681 fun x876 =>
     At x876 x850 fun x885 =>
     At m1 x681 fun x888 =>
     At x888 x850 fun x891 =>
     Call (Ev_ival_Sub x885 x891) fun x893 =>
     At x876 x850 fun x896 =>
     Let (IntKind.i64.wrap (x850 + (1 : Int))) fun x898 =>
     next851 (List.set out849 (Int.toNat x681) (List.set x876 (Int.toNat x850) x893)) x898) (
     Let (IntKind.i64.wrap (x681 + (1 : Int))) fun x899 =>
     next682 out849 x899))) (
   Q out680))
theorem walk_lin_lessOne {m1 : List (List GIval)} {r : List (List GIval)} (h : W_lin_lessOne m1 (fun r' => r' = r)) : Ev_lin_lessOne m1 r := by
  unfold W_lin_lessOne at h
  refine intr (L := [(0, .dat (.sl 50 1 (List.map (eSl 48 2 GIval.enc) m1)))]) Try.func14 Try.ntmps14 ?_
  refine sN (pS rfl (dn (AWp.seq (rN (pS rfl (al (((m1.length : Nat) : Int)) rfl ?_))))))
  obtain ⟨x3, hc4, h⟩ := h
  refine AOps.callRR hc4 rfl rfl rfl rfl ⟨.inl rfl, trivial⟩ ?_
  refine pO rfl (dn (AWp.seq (AWp.seq (rN (pO rfl (al (((x3.length : Nat) : Int)) rfl (pI rfl (dn (AWp.block ?_)))))))))
  obtain ⟨I904, x905, hz906, hr907⟩ := h
  refine AWp.loop (I := fun p : (List (List GIval)) × Int => mkSt [(0, .dat (.sl 50 1 (List.map (eSl 48 2 GIval.enc) m1))), (3, .oref 1003), (10, .dat (.v (.int .i64 ((x3.length : Nat) : Int)))), (11, .dat (.v (.int .i64 p.2)))] [(1003, .rr 50 48 2 (List.map (List.map GIval.enc) p.1) [])]) (Inv := fun p => I904 p.1 p.2) (μ := fun p => x905 p.1 p.2) (x0 := ⟨x3, (0 : Int)⟩) hz906 (slf (fun i => (if Nat.beq i 1003 then 8 else i))) (fun p hp => ?_)
  obtain ⟨out680, x681⟩ := p
  have h := hr907 out680 x681 hp
  refine sN (pW rfl (dn (AWp.seq (cB h (fun h => ?_) (fun h => ?_)))))
  · refine AWp.skip (AWp.seq (AWp.block (AWp.seq (rN (pI rfl (pI rfl (dn (AWp.seq ?_))))))))
    obtain ⟨hi793, x794, hx795, h⟩ := h
    refine AWp.sub (Sub.lend (id := 1003) (d := 5795) (m := (Int.toNat x681)) rfl rfl (mm_get hx795) holeAt_nil) ?_
    refine rN (pO rfl (pI rfl ?_))
    refine AOps.idxrr tabOk rfl rfl rfl rfl rfl rfl rfl rfl hi793 (mm_lt hi793 hx795) rfl ?_
    refine AOps.loadrr tabOk rfl rfl rfl rfl rfl rfl rfl (mm_lt2 hx795) holeAt_hd ?_
    refine al (((x794.length : Nat) : Int)) rfl (pI rfl (dn ?_))
    refine AWp.sub (Sub.unlend (id := 1003) (d := 5795) (m := (Int.toNat x681)) rfl rfl holeAt_nil mm_set) ?_
    refine AWp.block ?_
    obtain ⟨I900, x901, hz902, hr903⟩ := h
    refine AWp.loop (I := fun p : (List (List GIval)) × Int => mkSt [(0, .dat (.sl 50 1 (List.map (eSl 48 2 GIval.enc) m1))), (3, .oref 1003), (4, .dat (.v (.int .i64 x681))), (10, .dat (.v (.int .i64 ((x3.length : Nat) : Int)))), (11, .dat (.v (.int .i64 x681))), (18, .dat (.v (.int .i64 ((x794.length : Nat) : Int)))), (19, .dat (.v (.int .i64 p.2)))] [(1003, .rr 50 48 2 (List.map (List.map GIval.enc) p.1) [])]) (Inv := fun p => I900 p.1 p.2) (μ := fun p => x901 p.1 p.2) (x0 := ⟨(List.set out680 (Int.toNat x681) x794), (0 : Int)⟩) hz902 sl (fun p hp => ?_)
    obtain ⟨out849, x850⟩ := p
    have h := hr903 out849 x850 hp
    refine sN (pW rfl (dn (AWp.seq (cB h (fun h => ?_) (fun h => ?_)))))
    · refine AWp.skip (AWp.seq (AWp.block (AWp.seq (rN (pI rfl (pI rfl (dn ?_)))))))
      obtain ⟨hi875, x876, hx877, h⟩ := h
      refine AWp.sub (Sub.lend (id := 1003) (d := 5877) (m := (Int.toNat x681)) rfl rfl (mm_get hx877) holeAt_nil) ?_
      refine rE [(0, []), (3, [1003]), (4, []), (5, []), (22, [1003]), (23, []), (26, []), (27, [1003]), (28, []), (31, []), (34, []), (35, []), (38, [])] (pO rfl (pI rfl ?_))
      refine AOps.idxrr tabOk rfl rfl rfl rfl rfl rfl rfl rfl hi875 (mm_lt hi875 hx877) rfl ?_
      refine AOps.loadrr tabOk rfl rfl rfl rfl rfl rfl rfl (mm_lt2 hx877) holeAt_hd ?_
      refine pI rfl (pO rfl (pI rfl ?_))
      refine AOps.idxrr tabOk rfl rfl rfl rfl rfl rfl rfl rfl hi875 (mm_lt hi875 hx877) rfl ?_
      refine AOps.loadrr tabOk rfl rfl rfl rfl rfl rfl rfl (mm_lt2 hx877) holeAt_hd ?_
      refine pI rfl ?_
      obtain ⟨hi884, x885, hx886, h⟩ := h
      refine AOps.idxown tabOk rfl rfl rfl rfl rfl rfl rfl rfl hi884 (map_lt hi884 hx886) rfl ?_
      refine AOps.loadrow tabOk rfl rfl rfl rfl rfl rfl rfl (map_get hx886) rfl ?_
      refine pS rfl (pI rfl (kI h map_get rfl rfl rfl rfl rfl rfl rfl fun x888 h => ?_))
      refine pS rfl (pI rfl (kI h map_get rfl rfl rfl rfl rfl rfl rfl fun x891 h => ?_))
      refine pT rfl (kC h rfl ⟨.inl rfl, .inl rfl, trivial⟩ rfl fun x893 h => ?_)
      obtain ⟨hi895, x896, hx897, h⟩ := h
      refine AOps.idxown tabOk rfl rfl rfl rfl rfl rfl rfl rfl hi895 (map_lt hi895 hx897) rfl ?_
      refine AOps.storerow tabOk rfl rfl rfl rfl rfl rfl rfl rfl (map_lt2 hx897) rfl rfl rfl (map_set1 (e := GIval.enc) (x := x893)) ?_
      refine dn (AWp.sub (Sub.unlend (id := 1003) (d := 5877) (m := (Int.toNat x681)) rfl rfl holeAt_nil mm_set) ?_)
      refine rN ?_
      obtain ⟨x898, ex898, h⟩ := h.get
      refine ai ex898 rfl (pI rfl (dn ?_))
      exact ⟨⟨(List.set out849 (Int.toNat x681) (List.set x876 (Int.toNat x850) x893)), x898⟩, h.1, h.2, sl⟩
    refine AWp.exit ?_
    refine rN ?_
    obtain ⟨x899, ex899, h⟩ := h.get
    refine ai ex899 rfl (pI rfl (dn ?_))
    exact ⟨⟨out849, x899⟩, h.1, h.2, sl⟩
  refine AWp.exit ?_
  refine sN (pO rfl (pO rfl (dn ?_)))
  refine AWp.freezerr 2 1003 rfl rfl mm_sl ?_
  subst h; exact AWp.ret ⟨_, rfl, rfl⟩
def W_law04_LinSingular (x1 : List (List Nat)) (x2 : Int) (x3 : Int) (Q : Bool → Prop) : Prop :=
 Call (Ev_law04_square x1) fun x4 =>
 Br (!x4) (Q true) (
  Nz ((x1.length : Nat) : Int) <|
  Let (Int.tmod x2 ((x1.length : Nat) : Int)) fun x7 =>
  Let (IntKind.i64.wrap (x7 + ((x1.length : Nat) : Int))) fun x8 =>
  Nz ((x1.length : Nat) : Int) <|
  Let (Int.tmod x8 ((x1.length : Nat) : Int)) fun x9 =>
  Nz ((x1.length : Nat) : Int) <|
  Let (Int.tmod x3 ((x1.length : Nat) : Int)) fun x10 =>
  Let (IntKind.i64.wrap (x10 + ((x1.length : Nat) : Int))) fun x11 =>
  Nz ((x1.length : Nat) : Int) <|
  Let (Int.tmod x11 ((x1.length : Nat) : Int)) fun x12 =>
  Loop2 ([] : List (List Nat)) (0 : Int) (fun (x118 : List (List Nat)) (x119 : Int) next120 =>
   Br (decide (x119 < ((x1.length : Nat) : Int))) (
    At x1 x119 fun x137 =>
    Join1 (fun j143 =>
     Br (x119 == x12) (
      At x1 x9 fun x145 =>
      j143 x145) (
      j143 x137)
    ) (fun (x142 : List Nat) =>
     App 8 ([] : List Nat) x142 fun x147 =>
     App 24 x118 ([x147]) fun x148 =>
     Let (IntKind.i64.wrap (x119 + (1 : Int))) fun x149 =>
     next120 x148 x149)) (
    CallS (EvS_lin_Inverse x118) fun x152 =>
    Join1 (fun j154 =>
     Br (x9 != x12) (j154 (x152.2 != (40 : Int))) (
      j154 false)
    ) (fun (x153 : Bool) =>
     Br x153 (Q false) (
      CallS (EvS_lin_Inverse x1) fun x155 =>
      Br (decide (((x1.length : Nat) : Int) > (3 : Int))) (Q true) (
       Br (x155.2 == (40 : Int)) (Q true) (
        Call (Ev_ref04_Nums x1) fun x162 =>
        Call (Ev_ref04_Det x162) fun x164 =>
        Call (Ev_ref01_Sign x164) fun x166 =>
        Q (x166 != (0 : Int)))))))))
theorem walkS_law04_LinSingular {x1 : List (List Nat)} {x2 : Int} {x3 : Int} {R : Bool → Prop} (h : W_law04_LinSingular x1 x2 x3 R) : EvS_law04_LinSingular x1 x2 x3 R := by
  unfold W_law04_LinSingular at h
  refine AFnS.intro' (L := [(0, .dat (.sl 24 1 (List.map (eSl 42 1 (eFlt .f64)) x1))), (1, .dat (.v (.int .i64 x2))), (2, .dat (.v (.int .i64 x3)))]) tabOk Try.func3 rfl rfl Try.ntmps3 rfl rfl rfl ?_
  refine sN (pB rfl (dn (AWp.seq (AWp.seq (rN (pS rfl (kC h rfl ⟨.inl rfl, trivial⟩ rfl fun x4 h => ?_)))))))
  refine pB rfl (dn (cB h (fun h => ?_) (fun h => ?_)))
  · refine sN (pB rfl (dn (AWp.ret ?_)))
    exact ⟨_, rfl, _, h, rfl⟩
  refine AWp.skip (AWp.seq (rN (pS rfl (al (((x1.length : Nat) : Int)) rfl (pI rfl (dn (AWp.seq (rD (pI rfl (pI rfl ?_))))))))))
  obtain ⟨hq, h⟩ := h
  obtain ⟨x7, ex7, h⟩ := h.get
  refine AOps.q rfl rfl rfl rfl rfl (rbin_rem hq) ex7 ?_
  refine pI rfl ?_
  obtain ⟨x8, ex8, h⟩ := h.get
  refine ai ex8 rfl (pI rfl ?_)
  obtain ⟨hq, h⟩ := h
  obtain ⟨x9, ex9, h⟩ := h.get
  refine AOps.q rfl rfl rfl rfl rfl (rbin_rem hq) ex9 ?_
  refine pI rfl (pI rfl ?_)
  obtain ⟨hq, h⟩ := h
  obtain ⟨x10, ex10, h⟩ := h.get
  refine AOps.q rfl rfl rfl rfl rfl (rbin_rem hq) ex10 ?_
  refine pI rfl ?_
  obtain ⟨x11, ex11, h⟩ := h.get
  refine ai ex11 rfl (pI rfl ?_)
  obtain ⟨hq, h⟩ := h
  obtain ⟨x12, ex12, h⟩ := h.get
  refine AOps.q rfl rfl rfl rfl rfl (rbin_rem hq) ex12 ?_
  refine pI rfl (pI rfl (dn (AWp.seq (rN ?_))))
  refine AOps.nilown tabOk rfl rfl rfl rfl rfl rfl ?_
  refine dn (AWp.seq (AWp.seq (rN (pS rfl (al (((x1.length : Nat) : Int)) rfl (pI rfl (dn (AWp.block ?_))))))))
  obtain ⟨I170, x171, hz172, hr173⟩ := h
  refine AWp.loop (I := fun p : (List (List Nat)) × Int => mkSt [(0, .dat (.sl 24 1 (List.map (eSl 42 1 (eFlt .f64)) x1))), (1, .dat (.v (.int .i64 x9))), (2, .dat (.v (.int .i64 x12))), (7, .dat (.v (.int .i64 ((x1.length : Nat) : Int)))), (8, .oref 1008), (34, .dat (.sl 24 1 (List.map (eSl 42 1 (eFlt .f64)) x1))), (35, .dat (.v (.int .i64 ((x1.length : Nat) : Int)))), (36, .dat (.v (.int .i64 p.2)))] [(1008, .row 24 1 (List.map (eSl 42 1 (eFlt .f64)) p.1))]) (Inv := fun p => I170 p.1 p.2) (μ := fun p => x171 p.1 p.2) (x0 := ⟨([] : List (List Nat)), (0 : Int)⟩) hz172 (slf (fun i => (if Nat.beq i 1008 then 8 else i))) (fun p hp => ?_)
  obtain ⟨x118, x119⟩ := p
  have h := hr173 x118 x119 hp
  refine sN (pW rfl (dn (AWp.seq (cB h (fun h => ?_) (fun h => ?_)))))
  · refine AWp.skip (AWp.seq (AWp.block (AWp.seq (rN (pI rfl (kI h map_get rfl rfl rfl rfl rfl rfl rfl fun x137 h => ?_))))))
    refine pS rfl (pI rfl (pS rfl (dn (AWp.seq (AWp.seq (rN (pI rfl (pI rfl (pB rfl (dn ?_))))))))))
    obtain ⟨J150, h, hk151⟩ := h
    refine AWp.cutK (I := fun p : (List Nat) => mkSt [(0, .dat (.sl 24 1 (List.map (eSl 42 1 (eFlt .f64)) x1))), (1, .dat (.v (.int .i64 x9))), (2, .dat (.v (.int .i64 x12))), (7, .dat (.v (.int .i64 ((x1.length : Nat) : Int)))), (8, .oref 1008), (10, .dat (.sl 42 1 (List.map (eFlt .f64) p))), (34, .dat (.sl 24 1 (List.map (eSl 42 1 (eFlt .f64)) x1))), (35, .dat (.v (.int .i64 ((x1.length : Nat) : Int)))), (36, .dat (.v (.int .i64 x119)))] [(1008, .row 24 1 (List.map (eSl 42 1 (eFlt .f64)) x118))]) (Inv := fun p : (List Nat) => J150 p) ?_ (fun p hp => ?_)
    · refine cB h (fun h => ?_) (fun h => ?_)
      · refine rN (pS rfl (pI rfl (kI h map_get rfl rfl rfl rfl rfl rfl rfl fun x145 h => ?_)))
        refine pS rfl (pS rfl (dn ?_))
        exact ⟨x145, h, sl⟩
      refine AWp.skip ?_
      exact ⟨x137, h, sl⟩
    replace h := hk151 p hp
    revert h; clear hp; generalize p = x142; intro h
    refine rW (pO rfl ?_)
    refine AOps.litown tabOk (ys := []) rfl rfl rfl rfl rfl rfl rfl rfl ?_
    refine pS rfl ?_
    obtain ⟨h1, h2, x147, ex147, h⟩ := h.get
    refine AOps.appendF tabOk rfl rfl rfl rfl rfl rfl rfl rfl rfl rfl rfl (.inl ⟨_, rfl⟩) (app1 h1) (app2 h2) (app3 ex147) ?_
    refine AOps.lit tabOk (ys := [.sl 42 1 (List.map (eFlt .f64) x147)]) rfl rfl rfl rfl rfl rfl ?_
    obtain ⟨h1, h2, x148, ex148, h⟩ := h.get
    refine AOps.append tabOk rfl rfl rfl rfl rfl rfl rfl rfl rfl rfl rfl (.inl ⟨_, rfl⟩) (app1 h1) (app2 h2) (app3 ex148) ?_
    refine pO rfl (dn (rN ?_))
    obtain ⟨x149, ex149, h⟩ := h.get
    refine ai ex149 rfl (pI rfl (dn ?_))
    exact ⟨⟨x148, x149⟩, h.1, h.2, (slf (fun i => (if Nat.beq i 1008 then 53 else i)))⟩
  refine AWp.exit ?_
  refine AWp.seq ?_
  refine AWp.freeze 8 1008 rfl rfl ?_
  refine AWp.regionL ?_
  refine NOps.split 1 (cf := (fun _ => false)) rfl ?_
  refine pS rfl (dn ?_)
  refine KN.callS h rfl rfl (fun _ h => h) rfl rfl rfl rfl ⟨.inl rfl, trivial⟩ fun x152 h => ?_
  refine NOps.tail (cf := (fun _ => false)) rfl rfl ?_
  refine pU rfl (pS rfl (pI rfl (pS rfl (pI rfl (dn (AWp.seq (AWp.seq ?_)))))))
  obtain ⟨J168, h, hk169⟩ := h
  refine AWp.cutK (I := fun p : Bool => mkSt [(0, .dat (.sl 24 1 (List.map (eSl 42 1 (eFlt .f64)) x1))), (7, .dat (.v (.int .i64 ((x1.length : Nat) : Int)))), (66, .dat (.v (.bool p)))] []) (Inv := fun p : Bool => J168 p) ?_ (fun p hp => ?_)
  · refine rN (pI rfl (pI rfl (pB rfl (pB rfl (sB 63 h (fun h => ?_) (fun h => ?_))))))
    · refine pI rfl (pB rfl (pB rfl (dn ?_)))
      exact ⟨(x152.2 != (40 : Int)), h, sl⟩
    refine ff rfl (ff rfl (pB rfl (dn ?_)))
    exact ⟨false, h, sl⟩
  replace h := hk169 p hp
  revert h; clear hp; generalize p = x153; intro h
  refine cB h (fun h => ?_) (fun h => ?_)
  · refine sN (pB rfl (dn (AWp.ret ?_)))
    exact ⟨_, rfl, _, h, rfl⟩
  refine AWp.skip (AWp.seq ?_)
  refine AWp.regionL ?_
  refine NOps.split 1 (cf := (fun _ => false)) rfl ?_
  refine pS rfl (dn ?_)
  refine KN.callS h rfl rfl (fun _ h => h) rfl rfl rfl rfl ⟨.inl rfl, trivial⟩ fun x155 h => ?_
  refine NOps.tail (cf := (fun _ => false)) rfl rfl ?_
  refine pU rfl (pS rfl (pI rfl (pS rfl (pI rfl (dn (AWp.seq (rN (pI rfl (pB rfl (pB rfl (sB 74 h (fun h => ?_) (fun h => ?_))))))))))))
  · refine ff rfl (ff rfl (pB rfl (pB rfl (fo 5 rfl (pB rfl (pB rfl (dn (AWp.ret ?_))))))))
    exact ⟨_, rfl, _, h, rfl⟩
  refine pI rfl (pB rfl (pB rfl (pB rfl (sB 78 h (fun h => ?_) (fun h => ?_)))))
  · refine fo 5 rfl (pB rfl (pB rfl (dn (AWp.ret ?_))))
    exact ⟨_, rfl, _, h, rfl⟩
  refine pS rfl (kC h rfl ⟨.inl rfl, trivial⟩ rfl fun x162 h => ?_)
  refine kC h rfl ⟨.inl rfl, trivial⟩ rfl fun x164 h => kC h rfl ⟨.inl rfl, trivial⟩ rfl fun x166 h => pB rfl ?_
  refine pB rfl (pB rfl (dn (AWp.ret ?_)))
  exact ⟨_, rfl, _, h, rfl⟩
def W_law04_square (a1 : List (List Nat)) (Q : Bool → Prop) : Prop :=
 Call (Ev_ref04_Floats a1) fun x9 =>
 Br x9 (
  At a1 (0 : Int) fun x13 =>
  Q (((a1.length : Nat) : Int) == ((x13.length : Nat) : Int))) (
  Q false)
theorem walk_law04_square {a1 : List (List Nat)} {r : Bool} (h : W_law04_square a1 (fun r' => r' = r)) : Ev_law04_square a1 r := by
  unfold W_law04_square at h
  refine intr (L := [(0, .dat (.sl 24 1 (List.map (eSl 42 1 (eFlt .f64)) a1)))]) Try.func4 Try.ntmps4 ?_
  refine sN (pB rfl (dn (AWp.seq (rN (pS rfl (kC h rfl ⟨.inl rfl, trivial⟩ rfl fun x9 h => ?_))))))
  refine pB rfl (sB 5 h (fun h => ?_) (fun h => ?_))
  · refine pS rfl (al (((a1.length : Nat) : Int)) rfl (pS rfl (kI h map_get rfl rfl rfl rfl rfl rfl rfl fun x13 h => ?_)))
    refine pS rfl (al (((x13.length : Nat) : Int)) rfl (pB rfl (pB rfl (pB rfl (dn (AWp.ret ?_))))))
    subst h
    exact ⟨_, rfl, rfl⟩
  refine fo 7 rfl (pB rfl (pB rfl (dn (AWp.ret ?_))))
  subst h
  exact ⟨_, rfl, rfl⟩
end Go.Sim.Ytlkpbnhinnhlfaa
