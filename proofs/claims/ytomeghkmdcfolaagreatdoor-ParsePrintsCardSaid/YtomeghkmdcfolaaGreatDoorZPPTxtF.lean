/- What is proved: what the program writes of a tree that may be. -/
import Derived.Test.YtomeghkmdcfolaaGreatDoorZPPTxtD

namespace Go.Sim.YtomeghkmdcfolaaGreatDoor
open Go.RowKit Go.Proofs Go.Proofs.Tryz
structure TC (t : GTree) : Prop where
 ok : t.ok
 one : oneB nmB ixR t = true
 kn : t.Kids.length <= 4000
 sum : sumL (t.Kids.map txt) <= 800000
 ih : ∀ k ∈ t.Kids, TX k
theorem map_gt0 {ks r : List GTree} {a : GTree} (h : ks = a :: r) : gt (ks.map txt) 0 = txt a := by rw [h]; rfl
theorem map_gt1 {ks r : List GTree} {a b : GTree} (h : ks = a :: b :: r) : gt (ks.map txt) 1 = txt b := by rw [h]; rfl
theorem gk0 {t : GTree} {r : List GTree} {a : GTree} (h : t.Kids = a :: r) : gk t 0 = a := by unfold gk; rw [h]; rfl
theorem gk1 {t : GTree} {r : List GTree} {a b : GTree} (h : t.Kids = a :: b :: r) : gk t 1 = b := by unfold gk; rw [h]; rfl
theorem pjoin_map {ks : List GTree} {f : DV} {g : List UInt8 -> List UInt8} {s : ByteArray} (hs : s = bs []) (hl : ks.length <= 4000) (hn : sumL (ks.map txt) <= 800000) (hg : ∀ s, (g s).length <= s.length + 4)
    (h : ∀ t ∈ ks, FVal prog f [GTree.out t] (.v (.string (bs (g (txt t)))))) : Ev_parse_join ks s f (bs (jn [] ((ks.map txt).map g))) := by
  have e : (ks.map txt).map g = ks.map (fun k => g (txt k)) := by rw [List.map_map]; rfl
  have hj := jn_map_len hg (ks.map txt)
  rw [e] at hj ⊢
  exact pjoin_ev hs (by omega) (by omega) h
theorem ptext_ev {t : GTree} (c : TC t) (hex : lowK t -> Ev_parse_exprText t (bs (txt t))) : Ev_parse_text t (bs (txt t)) := by
  obtain ⟨ht, ho, hkn, hsum, ih⟩ := c
  have hm : maxLen = 9223372036854775807 := rfl
  have hnm := one_names ho
  have lN : (lst t.Name).length <= 24 := hnm.1
  have lA : (lst t.Alias).length <= 24 := hnm.2
  obtain ⟨_, _, _, kN, kM, kR, _⟩ := (GTree.ok_iff t).1 ht
  have iN := itoa_len (inI_of kN)
  have iM := itoa_len (inI_of kM)
  have sN := szL_len (inI_of kN)
  have eN : t.Name = bs (lst t.Name) := (bs_lst _).symm
  have eA : t.Alias = bs (lst t.Alias) := (bs_lst _).symm
  have hT := txt_eq t
  refine walk_parse_text ?_
  unfold W_parse_text
  refine Br.e (fun hk => ?_) (fun k30 => ?_)
  · refine Call.mk (pjoin_ev (g := txt) (sep := [10]) rfl (by omega) ?_ fun k hk => call_parse_text (ih k hk).tx) ?_
    · have := jn_len (sep := [10]) (by decide) (t.Kids.map txt); omega
    · rw [hT]; simp [nodeT, hk]
  refine Br.e (fun hk => ?_) (fun k31 => ?_)
  · have hg : ∀ s : List UInt8, (([32, 61, 32] : List UInt8) ++ s).length <= s.length + 4 := by intro s; simp
    have hj : (jn [] ((t.Kids.map txt).map fun s => [32, 61, 32] ++ s)).length <= sumL (t.Kids.map txt) := jn_map_len hg (t.Kids.map txt)
    refine Cat.l rfl eN (by simp only [List.length_cons, List.length_nil]; omega) (Call.mk (pjoin_map (g := fun s => [32, 61, 32] ++ s) rfl hkn hsum hg fun k hk => call_parse_text_1 (walk_parse_text_1 ?_)) (Cat.l rfl rfl (by simp only [List.length_append, List.length_cons, List.length_nil]; omega) (Cat.l rfl rfl (by simp only [List.length_append, List.length_cons, List.length_nil]; omega) ?_)))
    · have := (ih k hk).len
      unfold W_parse_text_1
      exact Call.mk (ih k hk).tx (Cat.l rfl rfl (by simp only [List.length_cons, List.length_nil]; omega) rfl)
    · rw [hT]; simp [nodeT, hk]
  refine Br.e (fun hk => ?_) (fun k32 => ?_)
  · have h := one_at ho (s := ⟨true, false, false, 1, 2, 0, many isI, noNum⟩) (by rw [hk]; rfl)
    have hg : ∀ s : List UInt8, (s ++ ([10] : List UInt8)).length <= s.length + 4 := by intro s; simp
    have hj := jn_map_len hg (t.Kids.map txt)
    have hw : ∃ x, [(ByteArray.mk #[]), (ByteArray.mk #[109, 111, 100, 101, 108, 32]), (ByteArray.mk #[99, 111, 110, 110, 101, 99, 116, 111, 114, 32])][t.N.toNat]? = some x /\ x = bs (if t.N = 2 then [99, 111, 110, 110, 101, 99, 116, 111, 114, 32] else [109, 111, 100, 101, 108, 32]) := by
      have h1 := h.2.2.1
      have h2 := h.2.2.2.1
      simp only at h1 h2
      have : t.N = 1 \/ t.N = 2 := by omega
      rcases this with e | e <;> (rw [e]; exact ⟨_, rfl, rfl⟩)
    obtain ⟨x, hx1, hx2⟩ := hw
    have hwl : (if t.N = 2 then ([99, 111, 110, 110, 101, 99, 116, 111, 114, 32] : List UInt8) else [109, 111, 100, 101, 108, 32]).length <= 10 := by split <;> simp
    refine ⟨by have := h.2.2.1; simp only at this; omega, x, hx1, Cat.l hx2 eN (by omega) (Cat.l rfl rfl (by simp only [List.length_append, List.length_cons, List.length_nil]; omega) (Call.mk (pjoin_map (g := fun s => s ++ [10]) rfl hkn hsum hg fun k hk => call_parse_text_2 (walk_parse_text_2 ?_)) (Cat.l rfl rfl (by simp only [List.length_append, List.length_cons, List.length_nil]; omega) (Cat.l rfl rfl (by simp only [List.length_append, List.length_cons, List.length_nil]; omega) ?_))))⟩
    · have := (ih k hk).len
      unfold W_parse_text_2
      exact Call.mk (ih k hk).tx (Cat.l rfl rfl (by simp only [List.length_cons, List.length_nil]; omega) rfl)
    · rw [hT]; simp [nodeT, hk]
  refine Br.e (fun hk => ?_) (fun k33 => ?_)
  · have h := one_at ho (s := ⟨true, false, false, 0, 0, 0, eachB [isKs [41], isE], noNum⟩) (by rw [hk]; rfl)
    obtain ⟨a, b, hks, _, _⟩ := each2 h.1
    have xa := ih a (by rw [hks]; simp)
    have xb := ih b (by rw [hks]; simp)
    have la := xa.len
    have lb := xb.len
    refine Cat.l rfl eN (by simp only [List.length_cons, List.length_nil]; omega) (At.k0 hks (Call.mk xa.tx (Cat.l rfl rfl (by simp only [List.length_append, List.length_cons, List.length_nil]; omega) (Cat.l rfl rfl (by simp only [List.length_append, List.length_cons, List.length_nil]; omega) (At.k1 hks (Call.mk xb.tx (Cat.l rfl rfl (by simp only [List.length_append, List.length_cons, List.length_nil]; omega) (Cat.l rfl rfl (by simp only [List.length_append, List.length_cons, List.length_nil]; omega) ?_))))))))
    rw [hT]; simp [nodeT, hk, hks, gt]
  refine Br.e (fun hk => ?_) (fun k34 => ?_)
  · have h := one_at ho (s := ⟨true, false, true, 0, 1000000, 0, eachB [isKs [41]], noNum⟩) (by rw [hk]; rfl)
    obtain ⟨a, hks, _⟩ := each1 h.1
    have xa := ih a (by rw [hks]; simp)
    have la := xa.len
    refine ⟨fun s => s = bs (if t.Flag = true then [102, 108, 111, 119, 32] else [118, 97, 114, 32]), ⟨fun e => by rw [if_pos e]; rfl, fun e => by rw [if_neg (by rw [e]; decide)]; rfl⟩, ?_⟩
    rintro _ rfl
    have hwl : (if t.Flag = true then ([102, 108, 111, 119, 32] : List UInt8) else [118, 97, 114, 32]).length <= 10 := by split <;> simp
    refine Cat.l rfl eN (by omega) (Call.mk (array_ev (inI_of kN)) (Cat.l rfl rfl (by simp only [List.length_append]; omega) (At.k0 hks (Call.mk xa.tx (Cat.l rfl rfl (by simp only [List.length_append]; omega) (Cat.l rfl rfl (by simp only [List.length_append, List.length_cons, List.length_nil]; omega) ?_))))))
    rw [hT]; simp [nodeT, hk, hks, gt]
  refine Br.e (fun hk => ?_) (fun k35 => ?_)
  · have hj := jn_len (sep := [44, 32]) (by decide) (t.Kids.map txt)
    refine ⟨fun s => s = bs (if t.Kids.map txt = [] then [] else 40 :: (jn [44, 32] (t.Kids.map txt) ++ [41])), Br.d (fun h0 => Call.mk (pjoin_ev (g := txt) (sep := [44, 32]) rfl (by omega) (by omega) fun k hk => call_parse_text (ih k hk).tx) (Cat.l rfl rfl (by simp only [List.length_cons, List.length_nil]; omega) (Cat.l rfl rfl (by simp only [List.length_append, List.length_cons, List.length_nil]; omega) ?_))) (fun h0 => ?_), ?_⟩
    · rw [if_neg (by intro e; rw [List.map_eq_nil_iff] at e; rw [e] at h0; simp at h0)]; rfl
    · rw [if_pos (by rw [List.map_eq_nil_iff]; exact List.eq_nil_of_length_eq_zero (by omega))]; rfl
    rintro _ rfl
    have hwl : (if t.Kids.map txt = [] then ([] : List UInt8) else 40 :: (jn [44, 32] (t.Kids.map txt) ++ [41])).length <= 800010 := by
      split
      · simp
      · simp only [List.length_append, List.length_cons, List.length_nil]; omega
    refine Cat.l rfl eN (by simp only [List.length_cons, List.length_nil]; omega) (Call.mk (array_ev (inI_of kN)) (Cat.l rfl rfl (by simp only [List.length_append, List.length_cons, List.length_nil]; omega) (Cat.l rfl rfl (by simp only [List.length_append, List.length_cons, List.length_nil]; omega) (Cat.l rfl eA (by simp only [List.length_append, List.length_cons, List.length_nil]; omega) (Cat.l rfl rfl (by simp only [List.length_append, List.length_cons, List.length_nil]; omega) (Cat.l rfl rfl (by simp only [List.length_append, List.length_cons, List.length_nil]; omega) ?_))))))
    rw [hT]; simp [nodeT, hk]
  refine Br.e (fun hk => ?_) (fun k36 => ?_)
  · have h := one_at ho (s := ⟨true, false, false, 0, 0, 0, eachB [isE], noNum⟩) (by rw [hk]; rfl)
    obtain ⟨a, hks, _⟩ := each1 h.1
    have xa := ih a (by rw [hks]; simp)
    have la := xa.len
    refine Cat.l eN rfl (by simp only [List.length_cons, List.length_nil]; omega) (At.k0 hks (Call.mk xa.tx (Cat.l rfl rfl (by simp only [List.length_append, List.length_cons, List.length_nil]; omega) ?_)))
    rw [hT]; simp [nodeT, hk, hks, gt]
  refine Br.e (fun hk => ?_) (fun k37 => ?_)
  · have h := one_at ho (s := ⟨false, false, false, 0, 0, 0, eachB [isKs [2, 4], isE, isE], noNum⟩) (by rw [hk]; rfl)
    obtain ⟨a, b, d, hks, _, _, _⟩ := each3 h.1
    have xa := ih a (by rw [hks]; simp)
    have xb := ih b (by rw [hks]; simp)
    have xd := ih d (by rw [hks]; simp)
    have la := xa.len
    have lb := xb.len
    have ld := xd.len
    have he := (treeEq_both b d (kids_ok ht b (by rw [hks]; simp)) (kids_ok ht d (by rw [hks]; simp))).1
    refine At.k1 hks (At.k2 hks (Call.mk he ⟨fun e => ?_, fun e => ?_⟩))
    · refine At.k0 hks (Call.mk xa.tx (Cat.l rfl rfl (by simp only [List.length_append, List.length_cons, List.length_nil]; omega) (Cat.l rfl rfl (by simp only [List.length_append, List.length_cons, List.length_nil]; omega) (At.k1 hks (Call.mk xb.tx (Cat.l rfl rfl (by simp only [List.length_append, List.length_cons, List.length_nil]; omega) (Cat.l rfl rfl (by simp only [List.length_append, List.length_cons, List.length_nil]; omega) ?_)))))))
      rw [hT]; simp [nodeT, hk, hks, gt, gk, e]
    · refine At.k0 hks (Call.mk xa.tx (Cat.l rfl rfl (by simp only [List.length_append, List.length_cons, List.length_nil]; omega) (Cat.l rfl rfl (by simp only [List.length_append, List.length_cons, List.length_nil]; omega) (At.k1 hks (Call.mk xb.tx (Cat.l rfl rfl (by simp only [List.length_append, List.length_cons, List.length_nil]; omega) (Cat.l rfl rfl (by simp only [List.length_append, List.length_cons, List.length_nil]; omega) (At.k2 hks (Call.mk xd.tx (Cat.l rfl rfl (by simp only [List.length_append, List.length_cons, List.length_nil]; omega) (Cat.l rfl rfl (by simp only [List.length_append, List.length_cons, List.length_nil]; omega) ?_)))))))))))
      rw [hT]; simp [nodeT, hk, hks, gt, gk, e]
  refine Br.e (fun hk => ?_) (fun k38 => ?_)
  · have h := one_at ho (s := ⟨false, false, false, 0, 0, 0, eachB [isKs [2], isKs [2]], noNum⟩) (by rw [hk]; rfl)
    obtain ⟨a, b, hks, _, _⟩ := each2 h.1
    have xa := ih a (by rw [hks]; simp)
    have xb := ih b (by rw [hks]; simp)
    have la := xa.len
    have lb := xb.len
    refine At.k0 hks (Call.mk xa.tx (Cat.l rfl rfl (by simp only [List.length_append, List.length_cons, List.length_nil]; omega) (Cat.l rfl rfl (by simp only [List.length_append, List.length_cons, List.length_nil]; omega) (At.k1 hks (Call.mk xb.tx (Cat.l rfl rfl (by simp only [List.length_append, List.length_cons, List.length_nil]; omega) (Cat.l rfl rfl (by simp only [List.length_append, List.length_cons, List.length_nil]; omega) ?_)))))))
    rw [hT]; simp [nodeT, hk, hks, gt]
  refine Br.e (fun hk => ?_) (fun k39 => ?_)
  · have h := one_at ho (s := ⟨false, false, false, 0, 0, 0, eachB [isE, isE], noNum⟩) (by rw [hk]; rfl)
    obtain ⟨a, b, hks, _, _⟩ := each2 h.1
    have xa := ih a (by rw [hks]; simp)
    have xb := ih b (by rw [hks]; simp)
    have la := xa.len
    have lb := xb.len
    refine At.k0 hks (Call.mk xa.tx (Cat.l rfl rfl (by simp only [List.length_append, List.length_cons, List.length_nil]; omega) (At.k1 hks (Call.mk xb.tx (Cat.l rfl rfl (by simp only [List.length_append, List.length_cons, List.length_nil]; omega) (Cat.l rfl rfl (by simp only [List.length_append, List.length_cons, List.length_nil]; omega) ?_))))))
    rw [hT]; simp [nodeT, hk, hks, gt]
  refine Br.e (fun hk => ?_) (fun k40 => ?_)
  · have hg : ∀ s : List UInt8, (s ++ ([10] : List UInt8)).length <= s.length + 4 := by intro s; simp
    have hj := jn_map_len hg (t.Kids.map txt)
    refine Cat.l rfl eN (by simp only [List.length_cons, List.length_nil]; omega) (Cat.l rfl rfl (by simp only [List.length_append, List.length_cons, List.length_nil]; omega) (Call.mk (itoa_ev (inI_of kN)) (Cat.l rfl rfl (by simp only [List.length_append, List.length_cons, List.length_nil]; omega) (Cat.l rfl rfl (by simp only [List.length_append, List.length_cons, List.length_nil]; omega) (Call.mk (itoa_ev (inI_of kM)) (Cat.l rfl rfl (by simp only [List.length_append, List.length_cons, List.length_nil]; omega) (Cat.l rfl rfl (by simp only [List.length_append, List.length_cons, List.length_nil]; omega) (Call.mk (pjoin_map (g := fun s => s ++ [10]) rfl hkn hsum hg fun k hk => call_parse_text_3 (walk_parse_text_3 ?_)) (Cat.l rfl rfl (by simp only [List.length_append, List.length_cons, List.length_nil]; omega) (Cat.l rfl rfl (by simp only [List.length_append, List.length_cons, List.length_nil]; omega) ?_))))))))))
    · have := (ih k hk).len
      unfold W_parse_text_3
      exact Call.mk (ih k hk).tx (Cat.l rfl rfl (by simp only [List.length_cons, List.length_nil]; omega) rfl)
    · rw [hT]; simp [nodeT, hk]
  refine Br.e (fun hk => ?_) (fun k41 => ?_)
  · have hg : ∀ s : List UInt8, (([58, 32] : List UInt8) ++ s).length <= s.length + 4 := by intro s; simp
    refine Call.mk (pjoin_map (g := fun s => [58, 32] ++ s) rfl hkn hsum hg fun k hk => call_parse_text_4 (walk_parse_text_4 ?_)) ?_
    · have := (ih k hk).len
      unfold W_parse_text_4
      exact Call.mk (ih k hk).tx (Cat.l rfl rfl (by simp only [List.length_cons, List.length_nil]; omega) rfl)
    · rw [hT]; simp [nodeT, hk]
  · have hl : lowK t := by
      rcases one_low ho with h | h
      · exact absurd h (by omega)
      · exact h
    exact Call.mk (hex hl) rfl
end Go.Sim.YtomeghkmdcfolaaGreatDoor

/- What is proved: what the program writes of expressions and dimensions. -/
namespace Go.Sim.YtomeghkmdcfolaaGreatDoor
open Go.RowKit Go.Proofs Go.Proofs.Tryz
theorem two_ev {t : GTree} {a b : GTree} {sg : List UInt8} (hks : t.Kids = [a, b]) (xa : TX a) (xb : TX b) (ha : lowK a) (hb : lowK b) (hs : sg.length <= 10) {s : ByteArray} (e : s = bs sg) :
    FVal prog (Fn_parse_exprText_1 t.Kids) [.v (.string s)] (.v (.string (bs (op t (t.Kids.map txt) 0 ++ (sg ++ op t (t.Kids.map txt) 1))))) := by
  subst e
  have l0 := opL_len a (txt a)
  have l1 := opL_len b (txt b)
  have la := xa.len
  have lb := xb.len
  refine call_parse_exprText_1 (walk_parse_exprText_1 ?_)
  unfold W_parse_exprText_1
  refine At.k0 hks (Call.mk (operand_ev xa ha) (Cat.l rfl rfl (by omega) (At.k1 hks (Call.mk (operand_ev xb hb) (Cat.l rfl rfl (by simp only [List.length_append]; omega) ?_)))))
  show bs _ = bs _
  unfold op
  rw [gk0 hks, gk1 hks, map_gt0 hks, map_gt1 hks, List.append_assoc]
theorem pexpr_ev {t : GTree} (c : TC t) (hlow : lowK t) : Ev_parse_exprText t (bs (txt t)) := by
 obtain ⟨ht, ho, hkn, hsum, ih⟩ := c
 have hm : maxLen = 9223372036854775807 := rfl
 have hnm := one_names ho
 have lN : (lst t.Name).length <= 24 := hnm.1
 obtain ⟨_, _, _, kN, kM, kR, _⟩ := (GTree.ok_iff t).1 ht
 have iN := itoa_len (inI_of kN)
 have qN := itoa_len (rat_inI kR).1
 have qD := itoa_len (rat_inI kR).2
 have eN : t.Name = bs (lst t.Name) := (bs_lst _).symm
 have hT := txt_eq t
 have hlow' := hlow
 unfold lowK at hlow'
 refine walk_parse_exprText ?_
 unfold W_parse_exprText
 refine Br.e (fun hk => ?_) (fun k1 => ?_)
 ·refine Call.mk (pdigits_ev kR (one_dec ho hk).1) ?_
  rw [hT]; simp [nodeT, lowT, hk]
 refine Br.e (fun hk => ?_) (fun k2 => ?_)
 ·have h := one_at ho (s := ⟨false, false, false, 0, 0, 0, plusB (isKs [3]), noNum⟩) (by rw [hk]; rfl)
  have hks := (plus_of h.1).2
  refine Call.mk (pjoin_ev (g := txt) (sep := [46]) rfl (by omega) ?_ fun k hk => call_parse_exprText ((ih k hk).ex (by have := isK1 (hks k hk); unfold lowK; omega))) ?_
  ·have := jn_len (sep := [46]) (by decide) (t.Kids.map txt); omega
  ·rw [hT]; simp [nodeT, lowT, hk]
 refine Br.e (fun hk => ?_) (fun k3 => ?_)
 ·have h := one_at ho (s := ⟨true, false, false, 0, 0, 0, optB ixR, noNum⟩) (by rw [hk]; rfl)
  have hks := (opt_of h.1).2
  have hg : ∀ s : List UInt8, (91 :: (s ++ ([93] : List UInt8))).length <= s.length + 4 := by intro s; simp
  have hj := jn_map_len hg (t.Kids.map txt)
  refine Call.mk (pjoin_map (g := fun s => 91 :: (s ++ [93])) rfl hkn hsum hg fun k hk => call_parse_exprText_2 (walk_parse_exprText_2 ?_)) (Cat.l eN rfl (by omega) ?_)
  ·have := (ih k hk).len
   unfold W_parse_exprText_2
   exact Call.mk ((ih k hk).ex (isE_low (ixR_E (hks k hk)))) (Cat.l rfl rfl (by simp only [List.length_cons, List.length_nil]; omega) (Cat.l rfl rfl (by simp only [List.length_append, List.length_cons, List.length_nil]; omega) rfl))
  ·rw [hT]; simp [nodeT, lowT, hk]
 refine Br.e (fun hk => ?_) (fun k4 => ?_)
 ·have h := one_at ho (s := ⟨false, false, false, 0, 0, 0, eachB [isKs [2]], noNum⟩) (by rw [hk]; rfl)
  obtain ⟨a, hks, pa⟩ := each1 h.1
  have xa := ih a (by rw [hks]; simp)
  have la := xa.len
  refine At.k0 hks (Call.mk (xa.ex (by have := isK1 pa; unfold lowK; omega)) (Cat.l rfl rfl (by simp only [List.length_cons, List.length_nil]; omega) (Cat.l rfl rfl (by simp only [List.length_append, List.length_cons, List.length_nil]; omega) ?_)))
  rw [hT]; simp [nodeT, lowT, hk, hks, gt]
 refine Br.e (fun hk => ?_) (fun k5 => ?_)
 ·show _ = _
  rw [hT]; simp [nodeT, lowT, hk]; rfl
 refine Br.e (fun hk => ?_) (fun k6 => ?_)
 ·have h := one_at ho (s := ⟨false, false, false, 9, 14, 0, eachB [isE], noNum⟩) (by rw [hk]; rfl)
  obtain ⟨a, hks, pa⟩ := each1 h.1
  have xa := ih a (by rw [hks]; simp)
  have la := xa.len
  have h1 := h.2.2.1
  have h2 := h.2.2.2.1
  simp only at h1 h2
  have hw : ∃ x, [(ByteArray.mk #[]), (ByteArray.mk #[]), (ByteArray.mk #[]), (ByteArray.mk #[]), (ByteArray.mk #[]), (ByteArray.mk #[]), (ByteArray.mk #[]), (ByteArray.mk #[]), (ByteArray.mk #[]), (ByteArray.mk #[115, 113, 114, 116]), (ByteArray.mk #[101, 120, 112]), (ByteArray.mk #[108, 111, 103]), (ByteArray.mk #[115, 105, 110]), (ByteArray.mk #[99, 111, 115]), (ByteArray.mk #[97, 116, 97, 110])][t.N.toNat]? = some x /\ x = bs (fnL t.N) := by
   have : t.N = 9 \/ t.N = 10 \/ t.N = 11 \/ t.N = 12 \/ t.N = 13 \/ t.N = 14 := by omega
   rcases this with e | e | e | e | e | e <;> (rw [e]; exact ⟨_, rfl, rfl⟩)
  obtain ⟨x, hx1, hx2⟩ := hw
  have fl := fnL_len t.N
  refine Call.mk (walk_parse_functions (by unfold W_parse_functions; rfl)) ⟨by omega, x, hx1, Cat.l hx2 rfl (by simp only [List.length_cons, List.length_nil]; omega) (At.k0 hks (Call.mk (xa.ex (isE_low pa)) (Cat.l rfl rfl (by simp only [List.length_append, List.length_cons, List.length_nil]; omega) (Cat.l rfl rfl (by simp only [List.length_append, List.length_cons, List.length_nil]; omega) ?_))))⟩
  rw [hT]; simp [nodeT, lowT, hk, hks, gt]
 refine Br.e (fun hk => ?_) (fun k7 => ?_)
 ·have h := one_at ho (s := ⟨false, false, false, 0, 0, 0, eachB [isE], noNum⟩) (by rw [hk]; rfl)
  obtain ⟨a, hks, pa⟩ := each1 h.1
  have xa := ih a (by rw [hks]; simp)
  have la := xa.len
  have l0 := opL_len a (txt a)
  refine At.k0 hks (Call.mk (operand_ev xa (isE_low pa)) (Cat.l rfl rfl (by simp only [List.length_cons, List.length_nil]; omega) ?_))
  rw [hT]; simp [nodeT, lowT, hk, hks, gt, op, gk]
 have h2 : ∀ k : Int, t.Kind = k -> (spec ixR k = some ⟨false, false, false, 0, 0, 0, eachB [isE, isE], noNum⟩ \/ spec ixR k = some ⟨false, false, false, 0, 0, 0, eachB [isD, isD], noNum⟩) -> ∃ a b, t.Kids = [a, b] /\ TX a /\ TX b /\ lowK a /\ lowK b := by
  rintro k rfl (hs | hs)
  ·obtain ⟨a, b, hks, pa, pb⟩ := each2 (one_at ho hs).1
   exact ⟨a, b, hks, ih a (by rw [hks]; simp), ih b (by rw [hks]; simp), isE_low pa, isE_low pb⟩
  ·obtain ⟨a, b, hks, pa, pb⟩ := each2 (one_at ho hs).1
   exact ⟨a, b, hks, ih a (by rw [hks]; simp), ih b (by rw [hks]; simp), isD_low pa, isD_low pb⟩
 refine Br.e (fun hk => ?_) (fun k8 => ?_)
 ·obtain ⟨a, b, hks, xa, xb, pa, pb⟩ := h2 8 hk (.inl rfl)
  refine Call.mk (two_ev (sg := [32, 43, 32]) hks xa xb pa pb (by decide) rfl) ?_
  rw [hT]; simp [nodeT, lowT, hk]
 refine Br.e (fun hk => ?_) (fun k9 => ?_)
 ·obtain ⟨a, b, hks, xa, xb, pa, pb⟩ := h2 9 hk (.inl rfl)
  refine Call.mk (two_ev (sg := [32, 45, 32]) hks xa xb pa pb (by decide) rfl) ?_
  rw [hT]; simp [nodeT, lowT, hk]
 refine ⟨fun b => b = decide (t.Kind = 10 \/ t.Kind = 22), Br.e (fun hk => ?_) (fun k10 => ?_), ?_⟩
 ·show _ = _; rw [Bool.eq_iff_iff]; simp [hk]
 ·show _ = _; rw [Bool.eq_iff_iff]; simp [k10]
 rintro _ rfl
 refine Br.d (fun hk => ?_) (fun k10 => ?_)
 ·have hh : ∃ a b, t.Kids = [a, b] /\ TX a /\ TX b /\ lowK a /\ lowK b := hk.elim (fun h => h2 10 h (.inl rfl)) (fun h => h2 22 h (.inr rfl))
  obtain ⟨a, b, hks, xa, xb, pa, pb⟩ := hh
  refine Call.mk (two_ev (sg := [32, 42, 32]) hks xa xb pa pb (by decide) rfl) ?_
  rw [hT]; rcases hk with hk | hk <;> simp [nodeT, lowT, hk]
 refine ⟨fun b => b = decide (t.Kind = 11 \/ t.Kind = 23), Br.e (fun hk => ?_) (fun k11 => ?_), ?_⟩
 ·show _ = _; rw [Bool.eq_iff_iff]; simp [hk]
 ·show _ = _; rw [Bool.eq_iff_iff]; simp [k11]
 rintro _ rfl
 refine Br.d (fun hk => ?_) (fun k11 => ?_)
 ·have hh : ∃ a b, t.Kids = [a, b] /\ TX a /\ TX b /\ lowK a /\ lowK b := hk.elim (fun h => h2 11 h (.inl rfl)) (fun h => h2 23 h (.inr rfl))
  obtain ⟨a, b, hks, xa, xb, pa, pb⟩ := hh
  refine Call.mk (two_ev (sg := [32, 47, 32]) hks xa xb pa pb (by decide) rfl) ?_
  rw [hT]; rcases hk with hk | hk <;> simp [nodeT, lowT, hk]
 refine Br.e (fun hk => ?_) (fun k12 => ?_)
 ·have h := one_at ho (s := ⟨false, false, false, -64, 64, 0, eachB [isE], noNum⟩) (by rw [hk]; rfl)
  obtain ⟨a, hks, pa⟩ := each1 h.1
  have xa := ih a (by rw [hks]; simp)
  have la := xa.len
  have l0 := opL_len a (txt a)
  refine At.k0 hks (Call.mk (operand_ev xa (isE_low pa)) (Cat.l rfl rfl (by simp only [List.length_cons, List.length_nil]; omega) (Call.mk (itoa_ev (inI_of kN)) (Cat.l rfl rfl (by simp only [List.length_append, List.length_cons, List.length_nil]; omega) ?_))))
  rw [hT]; simp [nodeT, lowT, hk, hks, gt, op, gk]
 refine Br.e (fun hk => ?_) (fun k21 => ?_)
 ·show _ = _
  rw [hT]; simp [nodeT, lowT, hk]; exact eN
 refine Br.e (fun hk => ?_) (fun k24 => ?_)
 ·have h := one_at ho (s := ⟨false, false, false, 0, 0, 0, eachB [isD], powB⟩) (by rw [hk]; rfl)
  obtain ⟨a, hks, pa⟩ := each1 h.1
  have xa := ih a (by rw [hks]; simp)
  have la := xa.len
  have l0 := opL_len a (txt a)
  refine Br.e (fun hd => ?_) (fun hd => ?_)
  ·refine At.k0 hks (Call.mk (operand_ev xa (isD_low pa)) (Cat.l rfl rfl (by simp only [List.length_cons, List.length_nil]; omega) (Call.mk (itoa_ev (rat_inI kR).1) (Cat.l rfl rfl (by simp only [List.length_append, List.length_cons, List.length_nil]; omega) ?_))))
   rw [hT]; simp [nodeT, lowT, hk, hks, gt, op, gk, powL, hd]
  ·refine At.k0 hks (Call.mk (operand_ev xa (isD_low pa)) (Cat.l rfl rfl (by simp only [List.length_cons, List.length_nil]; omega) (Call.mk (itoa_ev (rat_inI kR).1) (Cat.l rfl rfl (by simp only [List.length_append, List.length_cons, List.length_nil]; omega) (Cat.l rfl rfl (by simp only [List.length_append, List.length_cons, List.length_nil]; omega) (Call.mk (itoa_ev (rat_inI kR).2) (Cat.l rfl rfl (by simp only [List.length_append, List.length_cons, List.length_nil]; omega) (Cat.l rfl rfl (by simp only [List.length_append, List.length_cons, List.length_nil]; omega) ?_))))))))
   rw [hT]; simp [nodeT, lowT, hk, hks, gt, op, gk, powL, hd]
 ·have hk : t.Kind = 20 := by omega
  show _ = _
  rw [hT]; simp [nodeT, lowT, hk]; rfl
end Go.Sim.YtomeghkmdcfolaaGreatDoor
