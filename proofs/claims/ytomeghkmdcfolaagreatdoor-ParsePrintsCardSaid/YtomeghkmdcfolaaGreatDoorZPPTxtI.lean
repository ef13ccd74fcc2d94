/- What is proved: ParsePrints: both programs write one text of any tree, or refuse it alike. -/
import Derived.Test.YtomeghkmdcfolaaGreatDoorZPPTxtH
import Derived.Test.YtomeghkmdcfolaaGreatDoorZPPStrX

namespace Go.Sim.YtomeghkmdcfolaaGreatDoor
open Go.RowKit Go.Proofs Go.Proofs.Tryz
theorem rtext_ev {t : GTree} (c : TC t) (hne : t.Kind ≠ 36) (hlo : lowK t -> Ev_ref13_low t (bs (txt t))) : Ev_ref13_Text t (bs (txt t)) := by
  obtain ⟨ht, ho, hkn, hsum, ih⟩ := c
  have hm : maxLen = 9223372036854775807 := rfl
  have hnm := one_names ho
  have lN : (lst t.Name).length <= 24 := hnm.1
  have lA : (lst t.Alias).length <= 24 := hnm.2
  obtain ⟨_, _, _, kN, kM, kR, _⟩ := (GTree.ok_iff t).1 ht
  have iN := itoa_len (inI_of kN)
  have iM := itoa_len (inI_of kM)
  have sN := szL_len (inI_of kN)
  have eN : t.Name = bs (lst t.Name) := (bs_lst _).symm
  have eA : t.Alias = bs (lst t.Alias) := (bs_lst _).symm
  have hT := txt_eq t
  refine walk_ref13_Text ?_
  unfold W_ref13_Text
  refine Br.e (fun hk => ?_) (fun k30 => ?_)
  · have h := one_at ho (s := ⟨false, false, false, 0, 0, 0, many (isKs [31, 32]), noNum⟩) (by rw [hk]; rfl)
    have hks := many_of h.1
    have hlen := jn_take_len (sep := [10]) (by decide) (t.Kids.map txt)
    refine Loop2.up t.Kids.length (fun i s => s = bs (jn [10] ((t.Kids.map txt).take i))) rfl ?_
    rintro i _ k hi rfl hkk
    have hli := hlen i
    refine Br.d (fun hlt => ?_) (fun hge => ?_)
    · have hx : t.Kids[i]? = some (t.Kids[i]'(by omega)) := List.getElem?_eq_getElem _
      obtain ⟨x, hxe⟩ : ∃ x, x = t.Kids[i]'(by omega) := ⟨_, rfl⟩
      rw [← hxe] at hx
      have xx := ih x (List.mem_of_getElem? hx)
      have lx := xx.len
      have kx := isK2 (hks x (List.mem_of_getElem? hx))
      refine ⟨fun s => s = bs (jn [10] ((t.Kids.map txt).take i) ++ (if i = 0 then [] else [10])), Br.d (fun h0 => Cat.l rfl rfl (by simp only [List.length_cons, List.length_nil]; omega) ?_) (fun h0 => ?_), ?_⟩
      · rw [if_neg (by omega)]
      · rw [if_pos (by omega), List.append_nil]
      rintro _ rfl
      have hi2 : (if i = 0 then ([] : List UInt8) else [10]).length <= 1 := by split <;> simp
      refine ⟨by omega, x, by rw [Int.toNat_natCast]; exact hx, Call.mk (xx.rt (by omega)) (Cat.l rfl rfl (by simp only [List.length_append]; omega) (Let.as _ (wi1 (by omega)) (hkk _ (by omega) ?_)))⟩
      by_cases h0 : i = 0
      · subst h0
        rw [jn_take0 (map_at hx)]; simp [jn]
      · rw [jn_take (map_at hx) (by omega), if_neg h0, List.append_assoc]
    · have e1 : (t.Kids.map txt).take i = t.Kids.map txt := List.take_of_length_le (by rw [List.length_map]; omega)
      show bs _ = bs _
      rw [e1, hT]; simp [nodeT, hk]
  refine Br.e (fun hk => ?_) (fun k31 => ?_)
  · have h := one_at ho (s := ⟨true, false, false, 0, 0, 0, optB isD, noNum⟩) (by rw [hk]; rfl)
    obtain ⟨h1, hks⟩ := opt_of h.1
    have hg : ∀ s : List UInt8, (([32, 61, 32] : List UInt8) ++ s).length <= s.length + 4 := by intro s; simp
    have hj : (jn [] ((t.Kids.map txt).map fun s => [32, 61, 32] ++ s)).length <= sumL (t.Kids.map txt) := jn_map_len hg (t.Kids.map txt)
    refine Cat.l rfl eN (by simp only [List.length_cons, List.length_nil]; omega) (Call.mk (ropt_ev (sep := [32, 61, 32]) rfl (by decide) h1 fun k hk => ⟨ih k hk, low_ne (isD_low (hks k hk))⟩) (Cat.l rfl rfl (by simp only [List.length_append, List.length_cons, List.length_nil]; omega) (Cat.l rfl rfl (by simp only [List.length_append, List.length_cons, List.length_nil]; omega) ?_)))
    rw [hT]; simp [nodeT, hk]
  refine Br.e (fun hk => ?_) (fun k32 => ?_)
  · have h := one_at ho (s := ⟨true, false, false, 1, 2, 0, many isI, noNum⟩) (by rw [hk]; rfl)
    have hks := many_of h.1
    have hg : ∀ s : List UInt8, (s ++ ([10] : List UInt8)).length <= s.length + 4 := by intro s; simp
    have hj := jn_map_len hg (t.Kids.map txt)
    refine ⟨fun s => s = bs (if t.N = 2 then [99, 111, 110, 110, 101, 99, 116, 111, 114, 32] else [109, 111, 100, 101, 108, 32]), Br.e (fun e => by rw [if_pos e]; rfl) (fun e => by rw [if_neg e]; rfl), ?_⟩
    rintro _ rfl
    have hwl : (if t.N = 2 then ([99, 111, 110, 110, 101, 99, 116, 111, 114, 32] : List UInt8) else [109, 111, 100, 101, 108, 32]).length <= 10 := by split <;> simp
    refine Cat.l rfl eN (by omega) (Cat.l rfl rfl (by simp only [List.length_append, List.length_cons, List.length_nil]; omega) (Call.mk (rlines_ev hkn hsum fun k hk => ⟨ih k hk, isI_ne (hks k hk)⟩) (Cat.l rfl rfl (by simp only [List.length_append, List.length_cons, List.length_nil]; omega) (Cat.l rfl rfl (by simp only [List.length_append, List.length_cons, List.length_nil]; omega) ?_))))
    rw [hT]; simp [nodeT, hk]
  refine Br.e (fun hk => ?_) (fun k33 => ?_)
  · have h := one_at ho (s := ⟨true, false, false, 0, 0, 0, eachB [isKs [41], isE], noNum⟩) (by rw [hk]; rfl)
    obtain ⟨a, b, hks, pa, pb⟩ := each2 h.1
    have xa := ih a (by rw [hks]; simp)
    have xb := ih b (by rw [hks]; simp)
    have la := xa.len
    have lb := xb.len
    have ka := isK1 pa
    refine Cat.l rfl eN (by simp only [List.length_cons, List.length_nil]; omega) (At.k0 hks (Call.mk (xa.rt (by omega)) (Cat.l rfl rfl (by simp only [List.length_append, List.length_cons, List.length_nil]; omega) (Cat.l rfl rfl (by simp only [List.length_append, List.length_cons, List.length_nil]; omega) (At.k1 hks (Call.mk (xb.rt (low_ne (isE_low pb))) (Cat.l rfl rfl (by simp only [List.length_append, List.length_cons, List.length_nil]; omega) (Cat.l rfl rfl (by simp only [List.length_append, List.length_cons, List.length_nil]; omega) ?_))))))))
    rw [hT]; simp [nodeT, hk, hks, gt]
  refine Br.e (fun hk => ?_) (fun k34 => ?_)
  · have h := one_at ho (s := ⟨true, false, true, 0, 1000000, 0, eachB [isKs [41]], noNum⟩) (by rw [hk]; rfl)
    obtain ⟨a, hks, pa⟩ := each1 h.1
    have xa := ih a (by rw [hks]; simp)
    have la := xa.len
    have ka := isK1 pa
    refine ⟨fun s => s = bs (if t.Flag = true then [102, 108, 111, 119, 32] else [118, 97, 114, 32]), ⟨fun e => by rw [if_pos e]; rfl, fun e => by rw [if_neg (by rw [e]; decide)]; rfl⟩, ?_⟩
    rintro _ rfl
    have hwl : (if t.Flag = true then ([102, 108, 111, 119, 32] : List UInt8) else [118, 97, 114, 32]).length <= 10 := by split <;> simp
    refine Cat.l rfl eN (by omega) (Call.mk (rsize13_ev (inI_of kN)) (Cat.l rfl rfl (by simp only [List.length_append]; omega) (At.k0 hks (Call.mk (xa.rt (by omega)) (Cat.l rfl rfl (by simp only [List.length_append]; omega) (Cat.l rfl rfl (by simp only [List.length_append, List.length_cons, List.length_nil]; omega) ?_))))))
    rw [hT]; simp [nodeT, hk, hks, gt]
  refine Br.e (fun hk => ?_) (fun k35 => ?_)
  · have h := one_at ho (s := ⟨true, true, false, 0, 1000000, 0, many (isKs [36]), noNum⟩) (by rw [hk]; rfl)
    have hks := many_of h.1
    have hlen := jn_take_len (sep := [44, 32]) (by decide) (t.Kids.map txt)
    have hj := jn_len (sep := [44, 32]) (by decide) (t.Kids.map txt)
    refine Loop2.up t.Kids.length (fun i s => s = bs (jn [44, 32] ((t.Kids.map txt).take i))) rfl ?_
    rintro i _ k hi rfl hkk
    have hli := hlen i
    refine Br.d (fun hlt => ?_) (fun hge => ?_)
    · have hx : t.Kids[i]? = some (t.Kids[i]'(by omega)) := List.getElem?_eq_getElem _
      obtain ⟨x, hxe⟩ : ∃ x, x = t.Kids[i]'(by omega) := ⟨_, rfl⟩
      rw [← hxe] at hx
      have xx := ih x (List.mem_of_getElem? hx)
      have lx := xx.len
      have kx := isK1 (hks x (List.mem_of_getElem? hx))
      obtain ⟨e, he1, he2, he3⟩ := xx.md kx
      have ll : (txt x).length = (lst x.Name).length + (3 + (txt e).length) := by rw [he3]; simp only [List.length_append, List.length_cons, List.length_nil]
      refine ⟨fun s => s = bs (jn [44, 32] ((t.Kids.map txt).take i) ++ (if i = 0 then [] else [44, 32])), Br.d (fun h0 => Cat.l rfl rfl (by simp only [List.length_cons, List.length_nil]; omega) ?_) (fun h0 => ?_), ?_⟩
      · rw [if_neg (by omega)]
      · rw [if_pos (by omega), List.append_nil]
      rintro _ rfl
      have hi2 : (if i = 0 then ([] : List UInt8) else [44, 32]).length <= 2 := by split <;> simp
      have hx' : t.Kids[(i : Int).toNat]? = some x := by rw [Int.toNat_natCast]; exact hx
      refine ⟨by omega, x, hx', Cat.l rfl (bs_lst _).symm (by simp only [List.length_append]; omega) (Cat.l rfl rfl (by simp only [List.length_append, List.length_cons, List.length_nil]; omega) ⟨by omega, x, hx', At.k0 he1 (Call.mk he2 (Cat.l rfl rfl (by simp only [List.length_append, List.length_cons, List.length_nil]; omega) (Let.as _ (wi1 (by omega)) (hkk _ (by omega) ?_))))⟩)⟩
      by_cases h0 : i = 0
      · subst h0
        rw [jn_take0 (map_at hx), he3]; simp [jn]
      · rw [jn_take (map_at hx) (by omega), if_neg h0, he3]; simp only [List.append_assoc]
    · have e1 : (t.Kids.map txt).take i = t.Kids.map txt := List.take_of_length_le (by rw [List.length_map]; omega)
      rw [e1]
      have es : ∀ x y : ByteArray, (x.toList == y.toList) = decide (x = y) := fun x y => by rw [Bool.eq_iff_iff, beq_str]; simp
      have hz : (bs (jn [44, 32] (t.Kids.map txt)) = ByteArray.mk #[]) ↔ t.Kids.map txt = [] := by
        constructor
        · intro e
          match hkk2 : t.Kids with
          | [] => rfl
          | a :: r =>
            exfalso
            have ka := isK1 (hks a (by rw [hkk2]; simp))
            obtain ⟨u, _, _, he3⟩ := (ih a (by rw [hkk2]; simp)).md ka
            have : (jn [44, 32] (t.Kids.map txt)).length = 0 := by
              have h5 : (bs (jn [44, 32] (t.Kids.map txt))).size = 0 := by rw [e]; rfl
              rw [bs_size] at h5; exact h5
            rw [hkk2, List.map_cons, jn, he3] at this
            simp at this
        · intro e; rw [e]; rfl
      rw [es]
      refine ⟨fun s => s = bs (if t.Kids.map txt = [] then [] else 40 :: (jn [44, 32] (t.Kids.map txt) ++ [41])), ⟨fun h0 => Cat.l rfl rfl (by simp only [List.length_cons, List.length_nil]; omega) (Cat.l rfl rfl (by simp only [List.length_append, List.length_cons, List.length_nil]; omega) ?_), fun h0 => ?_⟩, ?_⟩
      · have h0' : ¬ (t.Kids.map txt = []) := by
          intro e
          rw [decide_eq_true (hz.2 e)] at h0; cases h0
        rw [if_neg h0']; rfl
      · have h0' : t.Kids.map txt = [] := by
          have : decide (bs (jn [44, 32] (t.Kids.map txt)) = ByteArray.mk #[]) = true := by simpa using h0
          exact hz.1 (of_decide_eq_true this)
        rw [if_pos h0', h0']; rfl
      rintro _ rfl
      have hwl : (if t.Kids.map txt = [] then ([] : List UInt8) else 40 :: (jn [44, 32] (t.Kids.map txt) ++ [41])).length <= 800010 := by
        split
        · simp
        · simp only [List.length_append, List.length_cons, List.length_nil]; omega
      refine Cat.l rfl eN (by simp only [List.length_cons, List.length_nil]; omega) (Call.mk (rsize13_ev (inI_of kN)) (Cat.l rfl rfl (by simp only [List.length_append, List.length_cons, List.length_nil]; omega) (Cat.l rfl rfl (by simp only [List.length_append, List.length_cons, List.length_nil]; omega) (Cat.l rfl eA (by simp only [List.length_append, List.length_cons, List.length_nil]; omega) (Cat.l rfl rfl (by simp only [List.length_append, List.length_cons, List.length_nil]; omega) (Cat.l rfl rfl (by simp only [List.length_append, List.length_cons, List.length_nil]; omega) ?_))))))
      rw [hT]; simp [nodeT, hk]
  refine Br.e (fun hk => ?_) (fun k37 => ?_)
  · have h := one_at ho (s := ⟨false, false, false, 0, 0, 0, eachB [isKs [2, 4], isE, isE], noNum⟩) (by rw [hk]; rfl)
    obtain ⟨a, b, d, hks, pa, pb, pd⟩ := each3 h.1
    have xa := ih a (by rw [hks]; simp)
    have xb := ih b (by rw [hks]; simp)
    have xd := ih d (by rw [hks]; simp)
    have la := xa.len
    have lb := xb.len
    have ld := xd.len
    have ra := xa.rt (by have := isK2 pa; omega)
    have rb := xb.rt (low_ne (isE_low pb))
    have rd := xd.rt (low_ne (isE_low pd))
    have he := (treeEq_both b d (kids_ok ht b (by rw [hks]; simp)) (kids_ok ht d (by rw [hks]; simp))).2
    refine At.k1 hks (At.k2 hks (Call.mk he ⟨fun e => ?_, fun e => ?_⟩))
    · refine At.k0 hks (Call.mk ra (Cat.l rfl rfl (by simp only [List.length_append, List.length_cons, List.length_nil]; omega) (Cat.l rfl rfl (by simp only [List.length_append, List.length_cons, List.length_nil]; omega) (At.k1 hks (Call.mk rb (Cat.l rfl rfl (by simp only [List.length_append, List.length_cons, List.length_nil]; omega) (Cat.l rfl rfl (by simp only [List.length_append, List.length_cons, List.length_nil]; omega) ?_)))))))
      rw [hT]; simp [nodeT, hk, hks, gt, gk, e]
    · refine At.k0 hks (Call.mk ra (Cat.l rfl rfl (by simp only [List.length_append, List.length_cons, List.length_nil]; omega) (Cat.l rfl rfl (by simp only [List.length_append, List.length_cons, List.length_nil]; omega) (At.k1 hks (Call.mk rb (Cat.l rfl rfl (by simp only [List.length_append, List.length_cons, List.length_nil]; omega) (Cat.l rfl rfl (by simp only [List.length_append, List.length_cons, List.length_nil]; omega) (At.k2 hks (Call.mk rd (Cat.l rfl rfl (by simp only [List.length_append, List.length_cons, List.length_nil]; omega) (Cat.l rfl rfl (by simp only [List.length_append, List.length_cons, List.length_nil]; omega) ?_)))))))))))
      rw [hT]; simp [nodeT, hk, hks, gt, gk, e]
  refine Br.e (fun hk => ?_) (fun k38 => ?_)
  · have h := one_at ho (s := ⟨false, false, false, 0, 0, 0, eachB [isKs [2], isKs [2]], noNum⟩) (by rw [hk]; rfl)
    obtain ⟨a, b, hks, pa, pb⟩ := each2 h.1
    have xa := ih a (by rw [hks]; simp)
    have xb := ih b (by rw [hks]; simp)
    have la := xa.len
    have lb := xb.len
    have ka := isK1 pa
    have kb := isK1 pb
    refine At.k0 hks (Call.mk (xa.rt (by omega)) (Cat.l rfl rfl (by simp only [List.length_append, List.length_cons, List.length_nil]; omega) (Cat.l rfl rfl (by simp only [List.length_append, List.length_cons, List.length_nil]; omega) (At.k1 hks (Call.mk (xb.rt (by omega)) (Cat.l rfl rfl (by simp only [List.length_append, List.length_cons, List.length_nil]; omega) (Cat.l rfl rfl (by simp only [List.length_append, List.length_cons, List.length_nil]; omega) ?_)))))))
    rw [hT]; simp [nodeT, hk, hks, gt]
  refine Br.e (fun hk => ?_) (fun k39 => ?_)
  · have h := one_at ho (s := ⟨false, false, false, 0, 0, 0, eachB [isE, isE], noNum⟩) (by rw [hk]; rfl)
    obtain ⟨a, b, hks, pa, pb⟩ := each2 h.1
    have xa := ih a (by rw [hks]; simp)
    have xb := ih b (by rw [hks]; simp)
    have la := xa.len
    have lb := xb.len
    refine At.k0 hks (Call.mk (xa.rt (low_ne (isE_low pa))) (Cat.l rfl rfl (by simp only [List.length_append, List.length_cons, List.length_nil]; omega) (At.k1 hks (Call.mk (xb.rt (low_ne (isE_low pb))) (Cat.l rfl rfl (by simp only [List.length_append, List.length_cons, List.length_nil]; omega) (Cat.l rfl rfl (by simp only [List.length_append, List.length_cons, List.length_nil]; omega) ?_))))))
    rw [hT]; simp [nodeT, hk, hks, gt]
  refine Br.e (fun hk => ?_) (fun k40 => ?_)
  · have h := one_at ho (s := ⟨true, false, false, 0, 1000000, 1000000, many isR, noNum⟩) (by rw [hk]; rfl)
    have hks := many_of h.1
    have hg : ∀ s : List UInt8, (s ++ ([10] : List UInt8)).length <= s.length + 4 := by intro s; simp
    have hj := jn_map_len hg (t.Kids.map txt)
    refine Cat.l rfl eN (by simp only [List.length_cons, List.length_nil]; omega) (Cat.l rfl rfl (by simp only [List.length_append, List.length_cons, List.length_nil]; omega) (Call.mk (num_ev (inI_of kN)) (Cat.l rfl rfl (by simp only [List.length_append, List.length_cons, List.length_nil]; omega) (Cat.l rfl rfl (by simp only [List.length_append, List.length_cons, List.length_nil]; omega) (Call.mk (num_ev (inI_of kM)) (Cat.l rfl rfl (by simp only [List.length_append, List.length_cons, List.length_nil]; omega) (Cat.l rfl rfl (by simp only [List.length_append, List.length_cons, List.length_nil]; omega) (Call.mk (rlines_ev hkn hsum fun k hk => ⟨ih k hk, isR_ne (hks k hk)⟩) (Cat.l rfl rfl (by simp only [List.length_append, List.length_cons, List.length_nil]; omega) (Cat.l rfl rfl (by simp only [List.length_append, List.length_cons, List.length_nil]; omega) ?_))))))))))
    rw [hT]; simp [nodeT, hk]
  refine Br.e (fun hk => ?_) (fun k41 => ?_)
  · have h := one_at ho (s := ⟨false, false, false, 0, 0, 0, optB isD, noNum⟩) (by rw [hk]; rfl)
    obtain ⟨h1, hks⟩ := opt_of h.1
    refine Call.mk (ropt_ev (sep := [58, 32]) rfl (by decide) h1 fun k hk => ⟨ih k hk, low_ne (isD_low (hks k hk))⟩) ?_
    rw [hT]; simp [nodeT, hk]
  · have hl : lowK t := by
      rcases one_low ho with h | h
      · exact absurd h (by omega)
      · exact h
    exact Call.mk (hlo hl) rfl
theorem tx_all (t : GTree) (ht : t.ok) (he : everyB nmB t = true) (hs : siz t <= 4000) : TX t := by
 have he' := he
 rw [everyB_eq, Bool.and_eq_true] at he'
 have ih : ∀ k ∈ t.Kids, TX k := fun k hk => tx_all k (kids_ok ht k hk) (List.all_eq_true.1 he'.2 k hk) (by have := siz_mem hk; rw [siz_eq] at hs; omega)
 have hsz := siz_eq t
 have hkl := sizL_len t.Kids
 have hsum := txt_sum (c := 200) t.Kids fun k hk => txt_len k (kids_ok ht k hk) (List.all_eq_true.1 he'.2 k hk)
 have c : TC t := ⟨ht, he'.1, by omega, by omega, ih⟩
 have hlen := txt_len t ht he
 refine ⟨by omega, ptext_ev c (pexpr_ev c), pexpr_ev c, fun hne => rtext_ev c hne (rlow_ev c), rlow_ev c, fun hk => ?_⟩
 have h := one_at he'.1 (s := ⟨true, false, false, 0, 0, 0, eachB [isE], noNum⟩) (by rw [hk]; rfl)
 obtain ⟨a, hks, pa⟩ := each1 h.1
 have xa := ih a (by rw [hks]; simp)
 refine ⟨a, hks, xa.rt (low_ne (isE_low pa)), ?_⟩
 rw [txt_eq t]; simp [nodeT, hk, hks, gt]
termination_by SizeOf.sizeOf t
decreasing_by
 have := List.sizeOf_lt_of_mem hk
 cases t; simp at this ⊢; omega
def printS (t : GTree) : ByteArray × Int :=
 if rightI nmB t ≠ 0 then (ByteArray.mk #[], rightI nmB t)
 else if 20000 < (txt t).length \/ (lexS lexK (txt t)).2.1 ≠ 0 then (ByteArray.mk #[], 2)
 else (bs (txt t), 0)
theorem rightI_0 {t : GTree} (h : rightI nmB t = 0) : everyB nmB t = true /\ siz t <= 4000 /\ t.Kind = 30 := by
 unfold rightI at h
 split at h
 ·simp at h
 ·split at h
  ·simp at h
  ·rename_i h2
   refine ⟨?_, ?_, ?_⟩
   ·cases he : everyB nmB t with
    | true => rfl
    | false => exact absurd (.inr (.inr he)) h2
   ·exact Nat.le_of_not_lt fun h3 => h2 (.inl h3)
   ·exact Decidable.byContradiction fun h3 => h2 (.inr (.inl h3))
theorem print_both (t : GTree) (ht : t.ok) : Ev_parse_Print t (printS t) /\ Ev_ref13_Print t (printS t) := by
 obtain ⟨r1, r2⟩ := rightI_ev ht
 have lx := lex_both (bs (txt t))
 rw [show tl (bs (txt t)) 0 = txt t by unfold tl bs; simp] at lx
 unfold printS
 by_cases h : rightI nmB t = 0
 ·obtain ⟨he, hs, hk⟩ := rightI_0 h
  have x := tx_all t ht he hs
  rw [if_neg (by omega)]
  constructor
  ·refine walk_parse_Print ?_
   unfold W_parse_Print
   refine Call.mk r1 (Br.f (by rw [h]; rfl) (Call.mk x.tx (Br.d (fun h1 => ?_) (fun h1 => Call.mk lx.1 ⟨fun h2 => ?_, fun h2 => ?_⟩))))
   ·rw [bs_size] at h1; rw [if_pos (.inl (by omega))]
   ·rw [if_pos (.inr (by simpa using h2))]
   ·rw [bs_size] at h1
    have h2' : (lexS lexK (txt t)).2.1 = 0 := by simpa using h2
    rw [if_neg (by rintro (h3 | h3) <;> omega)]
  ·refine walk_ref13_Print ?_
   unfold W_ref13_Print
   refine Call.mk r2 (Br.f (by rw [h]; rfl) (Call.mk (x.rt (by omega)) (Br.d (fun h1 => ?_) (fun h1 => Call.mk lx.2 ⟨fun h2 => ?_, fun h2 => ?_⟩))))
   ·rw [bs_size] at h1; rw [if_pos (.inl (by omega))]
   ·rw [if_pos (.inr (by simpa using h2))]
   ·rw [bs_size] at h1
    have h2' : (lexS lexK (txt t)).2.1 = 0 := by simpa using h2
    rw [if_neg (by rintro (h3 | h3) <;> omega)]
 ·rw [if_pos h]
  constructor
  ·refine walk_parse_Print ?_
   unfold W_parse_Print
   exact Call.mk r1 (Br.t (by simpa using h) rfl)
  ·refine walk_ref13_Print ?_
   unfold W_ref13_Print
   exact Call.mk r2 (Br.t (by simpa using h) rfl)
theorem parsePrints_ev (t : GTree) (ht : t.ok) : Ev_law13_ParsePrints t true := by
 obtain ⟨h1, h2⟩ := print_both t ht
 refine walk_law13_ParsePrints ?_
 unfold W_law13_ParsePrints
 exact Call.mk h1 (Call.mk h2 (Br.t (by simp) (by simp)))
end Go.Sim.YtomeghkmdcfolaaGreatDoor
