/- What is proved: which nodes may be, by themselves, as the reference tells; which trees may be, as the program and the reference tell. -/
import Derived.Test.YtomeghkmdcfolaaGreatDoorZPPParF

namespace Go.Sim.YtomeghkmdcfolaaGreatDoor
open Go.RowKit Go.Proofs Go.Proofs.Tryz
def rspec (k : Int) : Option (List UInt8 × Int × Int × Int × List (UInt8 × UInt8)) :=
 if k = 30 then some ([], 0, 0, 0, [(117, 42)])
 else if k = 31 then some ([78], 0, 0, 0, [(100, 63)])
 else if k = 32 then some ([78], 1, 2, 0, [(73, 42)])
 else if k = 33 then some ([78], 0, 0, 0, [(116, 0), (69, 0)])
 else if k = 34 then some ([78, 70], 0, 1000000, 0, [(116, 0)])
 else if k = 35 then some ([78, 65], 0, 1000000, 0, [(109, 42)])
 else if k = 36 then some ([78], 0, 0, 0, [(69, 0)])
 else if k = 37 then some ([], 0, 0, 0, [(83, 0), (69, 0), (69, 0)])
 else if k = 38 then some ([], 0, 0, 0, [(102, 0), (102, 0)])
 else if k = 39 \/ k = 8 \/ k = 9 \/ k = 10 \/ k = 11 then some ([], 0, 0, 0, [(69, 0), (69, 0)])
 else if k = 40 then some ([78], 0, 1000000, 1000000, [(114, 42)])
 else if k = 41 then some ([], 0, 0, 0, [(100, 63)])
 else if k = 1 then some ([82], 0, 0, 0, [])
 else if k = 2 then some ([], 0, 0, 0, [(120, 43)])
 else if k = 3 then some ([78], 0, 0, 0, [(69, 63)])
 else if k = 4 then some ([], 0, 0, 0, [(102, 0)])
 else if k = 5 \/ k = 20 then some ([], 0, 0, 0, [])
 else if k = 6 then some ([], 9, 14, 0, [(69, 0)])
 else if k = 7 then some ([], 0, 0, 0, [(69, 0)])
 else if k = 12 then some ([], -64, 64, 0, [(69, 0)])
 else if k = 21 then some ([78], 0, 0, 0, [])
 else if k = 22 \/ k = 23 then some ([], 0, 0, 0, [(100, 0), (100, 0)])
 else if k = 24 then some ([82], 0, 0, 0, [(100, 0)])
 else none
def rspecO : Option (List UInt8 × Int × Int × Int × List (UInt8 × UInt8)) -> Gref13Spec × Bool
 | some (H, lo, hi, m, its) => (⟨bsl H, lo, hi, m, bsl (encQ its)⟩, true)
 | none => (Gref13Spec.zero, false)
theorem rspec_ev (k : Int) : Ev_ref13_spec k (rspecO (rspec k)) := by
 refine walk_ref13_spec ?_
 unfold W_ref13_spec rspec
 refine Br.e (fun h => by rw [if_pos h]; rfl) (fun h => ?_); rw [if_neg h]
 refine Br.e (fun h => by rw [if_pos h]; rfl) (fun h => ?_); rw [if_neg h]
 refine Br.e (fun h => by rw [if_pos h]; rfl) (fun h => ?_); rw [if_neg h]
 refine Br.e (fun h => by rw [if_pos h]; rfl) (fun h => ?_); rw [if_neg h]
 refine Br.e (fun h => by rw [if_pos h]; rfl) (fun h => ?_); rw [if_neg h]
 refine Br.e (fun h => by rw [if_pos h]; rfl) (fun h => ?_); rw [if_neg h]
 refine Br.e (fun h => by rw [if_pos h]; rfl) (fun h => ?_); rw [if_neg h]
 refine Br.e (fun h => by rw [if_pos h]; rfl) (fun h => ?_); rw [if_neg h]
 refine Br.e (fun h => by rw [if_pos h]; rfl) (fun h => ?_); rw [if_neg h]
 refine ⟨fun b => b = decide (k = 39 \/ k = 8 \/ k = 9 \/ k = 10 \/ k = 11), Br.e (fun e => by simp [e]) (fun e1 => Br.e (fun e => by simp [e]) (fun e2 => Br.e (fun e => by simp [e]) (fun e3 => Br.e (fun e => by simp [e]) (fun e4 => by show _ = _; rw [Bool.eq_iff_iff]; simp [e1, e2, e3, e4])))), ?_⟩
 rintro _ rfl
 refine Br.d (fun h => by rw [if_pos h]; rfl) (fun h => ?_); rw [if_neg h]
 refine Br.e (fun h => by rw [if_pos h]; rfl) (fun h => ?_); rw [if_neg h]
 refine Br.e (fun h => by rw [if_pos h]; rfl) (fun h => ?_); rw [if_neg h]
 refine Br.e (fun h => by rw [if_pos h]; rfl) (fun h => ?_); rw [if_neg h]
 refine Br.e (fun h => by rw [if_pos h]; rfl) (fun h => ?_); rw [if_neg h]
 refine Br.e (fun h => by rw [if_pos h]; rfl) (fun h => ?_); rw [if_neg h]
 refine Br.e (fun h => by rw [if_pos h]; rfl) (fun h => ?_); rw [if_neg h]
 refine ⟨fun b => b = decide (k = 5 \/ k = 20), Br.e (fun e => by simp [e]) (fun e1 => by show _ = _; rw [Bool.eq_iff_iff]; simp [e1]), ?_⟩
 rintro _ rfl
 refine Br.d (fun h => by rw [if_pos h]; rfl) (fun h => ?_); rw [if_neg h]
 refine Br.e (fun h => by rw [if_pos h]; rfl) (fun h => ?_); rw [if_neg h]
 refine Br.e (fun h => by rw [if_pos h]; rfl) (fun h => ?_); rw [if_neg h]
 refine Br.e (fun h => by rw [if_pos h]; rfl) (fun h => ?_); rw [if_neg h]
 refine Br.e (fun h => by rw [if_pos h]; rfl) (fun h => ?_); rw [if_neg h]
 refine ⟨fun b => b = decide (k = 22 \/ k = 23), Br.e (fun e => by simp [e]) (fun e1 => by show _ = _; rw [Bool.eq_iff_iff]; simp [e1]), ?_⟩
 rintro _ rfl
 refine Br.d (fun h => by rw [if_pos h]; rfl) (fun h => ?_); rw [if_neg h]
 refine Br.e (fun h => by rw [if_pos h]; rfl) (fun h => ?_); rw [if_neg h]
 rfl
theorem ixR_E {t : GTree} (h : ixR t = true) : isE t = true := by
 unfold ixR at h
 unfold isE
 split at h
 ·rename_i h1; simp; omega
 ·unfold numR refB at h
  simp only [Bool.or_eq_true, Bool.and_eq_true, beq_iff_eq] at h
  simp; omega
theorem kids1 (a : UInt8) (ks : List GTree) : kidsM [(a, 0)] ks = eachB [fitsB a.toNat] ks := by
 rw [kidsM_one]
 match ks with
 | [] => rfl
 | [_] => rfl
 | _ :: _ :: _ => rfl
theorem kids2 (a b : UInt8) (ks : List GTree) : kidsM [(a, 0), (b, 0)] ks = eachB [fitsB a.toNat, fitsB b.toNat] ks := by
 rw [kidsM_one]
 match ks with
 | [] => rfl
 | k :: ks => show (_ && kidsM [(b, 0)] ks) = _; rw [kids1]; rfl
theorem kids3 (a b c : UInt8) (ks : List GTree) : kidsM [(a, 0), (b, 0), (c, 0)] ks = eachB [fitsB a.toNat, fitsB b.toNat, fitsB c.toNat] ks := by
 rw [kidsM_one]
 match ks with
 | [] => rfl
 | k :: ks => show (_ && kidsM [(b, 0), (c, 0)] ks) = _; rw [kids2]; rfl
theorem ix3 {t : GTree} (h : t.Kind = 3) : (kidsM [(69, 63)] t.Kids && lastB t) = (optB ixR t.Kids && noNum t.Num) := by
 rw [kidsM_opt, fit_E]
 unfold lastB optB
 rw [if_neg (by omega), if_neg (by omega), if_pos h]
 match t.Kids with
 | [] => simp
 | [k] =>
  have hE := ixR_E (t := k)
  cases h1 : ixR k with
  | true => rw [h1] at hE; simp [hE, h1]
  | false => simp [h1]
 | _ :: _ :: _ => simp
instance (x : UInt8 × UInt8) : Decidable (okQ x) := by unfold okQ; infer_instance
section
variable {nm : ByteArray -> Bool} (hnr : ∀ s : ByteArray, s.size <= maxLen -> Ev_ref12_Name s (nm s))
 (hrr : ∀ a : GRat, a.ok -> Ev_ref11_Right a a.right) (hd : ∀ a : GRat, a.right = true -> a.D ≠ 0)
include hnr hrr hd
theorem one_ev {t : GTree} (ht : t.ok) (hl : t.Kids.length <= 100000) : Ev_ref13_one t (oneB nm ixR t) := by
  have key : ∀ (H : List UInt8) (lo hi m : Int) (its : List (UInt8 × UInt8)) (s : Sp), rspec t.Kind = some (H, lo, hi, m, its) -> spec ixR t.Kind = some s -> s.hasN = H.contains 78 -> s.hasA = H.contains 65 -> s.hasF = H.contains 70 -> s.lo = lo -> s.hi = hi -> s.m = m ->
      (kidsM its t.Kids && lastB t) = (s.kids t.Kids && s.num t.Num) -> H.length <= 1000 -> (∀ x ∈ its, okQ x) -> (encQ its).length <= 1000 -> Ev_ref13_one t (oneB nm ixR t) := by
    intro H lo hi m its s h1 h2 h3 h4 h5 h6 h7 h8 h9 h10 h11 h12
    have hs := rspec_ev t.Kind
    rw [h1] at hs
    have h := oneR_ev hnr hrr hd ht hl h10 h11 h12 hs
    rw [Bool.and_assoc, h9] at h
    have e : oneB nm ixR t = (nmOr nm t.Name (H.contains 78) && nmOr nm t.Alias (H.contains 65) && (!t.Flag || H.contains 70) && decide (lo <= t.N) && decide (t.N <= hi) && decide (0 <= t.M) && decide (t.M <= m) && (s.kids t.Kids && s.num t.Num)) := by
      unfold oneB
      rw [h2]
      simp only [h3, h4, h5, h6, h7, h8, nmOr, Bool.and_assoc]
    rw [e]; exact h
  by_cases k30 : t.Kind = 30
  · exact key [] 0 0 0 [(117, 42)] ⟨false, false, false, 0, 0, 0, many (isKs [31, 32]), noNum⟩ (by simp [rspec, k30]) (by simp [spec, k30]) rfl rfl rfl rfl rfl rfl (by rw [kidsM_star hl, fit_u]; simp [lastB, k30, many]) (by decide) (by decide) (by decide)
  by_cases k31 : t.Kind = 31
  · exact key [78] 0 0 0 [(100, 63)] ⟨true, false, false, 0, 0, 0, optB isD, noNum⟩ (by simp [rspec, k31]) (by simp [spec, k31]) rfl rfl rfl rfl rfl rfl (by rw [kidsM_opt, fit_d]; simp [lastB, k31]) (by decide) (by decide) (by decide)
  by_cases k32 : t.Kind = 32
  · exact key [78] 1 2 0 [(73, 42)] ⟨true, false, false, 1, 2, 0, many isI, noNum⟩ (by simp [rspec, k32]) (by simp [spec, k32]) rfl rfl rfl rfl rfl rfl (by rw [kidsM_star hl, fit_I]; simp [lastB, k32, many]) (by decide) (by decide) (by decide)
  by_cases k33 : t.Kind = 33
  · exact key [78] 0 0 0 [(116, 0), (69, 0)] ⟨true, false, false, 0, 0, 0, eachB [isKs [41], isE], noNum⟩ (by simp [rspec, k33]) (by simp [spec, k33]) rfl rfl rfl rfl rfl rfl (by rw [kids2, fit_E, fit_t]; simp [lastB, k33]) (by decide) (by decide) (by decide)
  by_cases k34 : t.Kind = 34
  · exact key [78, 70] 0 1000000 0 [(116, 0)] ⟨true, false, true, 0, 1000000, 0, eachB [isKs [41]], noNum⟩ (by simp [rspec, k34]) (by simp [spec, k34]) rfl rfl rfl rfl rfl rfl (by rw [kids1, fit_t]; simp [lastB, k34]) (by decide) (by decide) (by decide)
  by_cases k35 : t.Kind = 35
  · exact key [78, 65] 0 1000000 0 [(109, 42)] ⟨true, true, false, 0, 1000000, 0, many (isKs [36]), noNum⟩ (by simp [rspec, k35]) (by simp [spec, k35]) rfl rfl rfl rfl rfl rfl (by rw [kidsM_star hl, fit_m]; simp [lastB, k35, many]) (by decide) (by decide) (by decide)
  by_cases k36 : t.Kind = 36
  · exact key [78] 0 0 0 [(69, 0)] ⟨true, false, false, 0, 0, 0, eachB [isE], noNum⟩ (by simp [rspec, k36]) (by simp [spec, k36]) rfl rfl rfl rfl rfl rfl (by rw [kids1, fit_E]; simp [lastB, k36]) (by decide) (by decide) (by decide)
  by_cases k37 : t.Kind = 37
  · exact key [] 0 0 0 [(83, 0), (69, 0), (69, 0)] ⟨false, false, false, 0, 0, 0, eachB [isKs [2, 4], isE, isE], noNum⟩ (by simp [rspec, k37]) (by simp [spec, k37]) rfl rfl rfl rfl rfl rfl (by rw [kids3, fit_E, fit_S]; simp [lastB, k37]) (by decide) (by decide) (by decide)
  by_cases k38 : t.Kind = 38
  · exact key [] 0 0 0 [(102, 0), (102, 0)] ⟨false, false, false, 0, 0, 0, eachB [isKs [2], isKs [2]], noNum⟩ (by simp [rspec, k38]) (by simp [spec, k38]) rfl rfl rfl rfl rfl rfl (by rw [kids2, fit_f]; simp [lastB, k38]) (by decide) (by decide) (by decide)
  by_cases k39 : t.Kind = 39
  · exact key [] 0 0 0 [(69, 0), (69, 0)] ⟨false, false, false, 0, 0, 0, eachB [isE, isE], noNum⟩ (by simp [rspec, k39]) (by simp [spec, k39]) rfl rfl rfl rfl rfl rfl (by rw [kids2, fit_E]; simp [lastB, k39]) (by decide) (by decide) (by decide)
  by_cases k8 : t.Kind = 8
  · exact key [] 0 0 0 [(69, 0), (69, 0)] ⟨false, false, false, 0, 0, 0, eachB [isE, isE], noNum⟩ (by simp [rspec, k8]) (by simp [spec, k8]) rfl rfl rfl rfl rfl rfl (by rw [kids2, fit_E]; simp [lastB, k8]) (by decide) (by decide) (by decide)
  by_cases k9 : t.Kind = 9
  · exact key [] 0 0 0 [(69, 0), (69, 0)] ⟨false, false, false, 0, 0, 0, eachB [isE, isE], noNum⟩ (by simp [rspec, k9]) (by simp [spec, k9]) rfl rfl rfl rfl rfl rfl (by rw [kids2, fit_E]; simp [lastB, k9]) (by decide) (by decide) (by decide)
  by_cases k10 : t.Kind = 10
  · exact key [] 0 0 0 [(69, 0), (69, 0)] ⟨false, false, false, 0, 0, 0, eachB [isE, isE], noNum⟩ (by simp [rspec, k10]) (by simp [spec, k10]) rfl rfl rfl rfl rfl rfl (by rw [kids2, fit_E]; simp [lastB, k10]) (by decide) (by decide) (by decide)
  by_cases k11 : t.Kind = 11
  · exact key [] 0 0 0 [(69, 0), (69, 0)] ⟨false, false, false, 0, 0, 0, eachB [isE, isE], noNum⟩ (by simp [rspec, k11]) (by simp [spec, k11]) rfl rfl rfl rfl rfl rfl (by rw [kids2, fit_E]; simp [lastB, k11]) (by decide) (by decide) (by decide)
  by_cases k40 : t.Kind = 40
  · exact key [78] 0 1000000 1000000 [(114, 42)] ⟨true, false, false, 0, 1000000, 1000000, many isR, noNum⟩ (by simp [rspec, k40]) (by simp [spec, k40]) rfl rfl rfl rfl rfl rfl (by rw [kidsM_star hl, fit_r]; simp [lastB, k40, many]) (by decide) (by decide) (by decide)
  by_cases k41 : t.Kind = 41
  · exact key [] 0 0 0 [(100, 63)] ⟨false, false, false, 0, 0, 0, optB isD, noNum⟩ (by simp [rspec, k41]) (by simp [spec, k41]) rfl rfl rfl rfl rfl rfl (by rw [kidsM_opt, fit_d]; simp [lastB, k41]) (by decide) (by decide) (by decide)
  by_cases k1 : t.Kind = 1
  · exact key [82] 0 0 0 [] ⟨false, false, false, 0, 0, 0, List.isEmpty, decB⟩ (by simp [rspec, k1]) (by simp [spec, k1]) rfl rfl rfl rfl rfl rfl (by rw [kidsM_nil]; simp [lastB, k1]) (by decide) (by decide) (by decide)
  by_cases k2 : t.Kind = 2
  · exact key [] 0 0 0 [(120, 43)] ⟨false, false, false, 0, 0, 0, plusB (isKs [3]), noNum⟩ (by simp [rspec, k2]) (by simp [spec, k2]) rfl rfl rfl rfl rfl rfl (by rw [kidsM_plus hl, fit_x]; simp [lastB, k2]) (by decide) (by decide) (by decide)
  by_cases k3 : t.Kind = 3
  · exact key [78] 0 0 0 [(69, 63)] ⟨true, false, false, 0, 0, 0, optB ixR, noNum⟩ (by simp [rspec, k3]) (by simp [spec, k3]) rfl rfl rfl rfl rfl rfl (ix3 k3) (by decide) (by decide) (by decide)
  by_cases k4 : t.Kind = 4
  · exact key [] 0 0 0 [(102, 0)] ⟨false, false, false, 0, 0, 0, eachB [isKs [2]], noNum⟩ (by simp [rspec, k4]) (by simp [spec, k4]) rfl rfl rfl rfl rfl rfl (by rw [kids1, fit_f]; simp [lastB, k4]) (by decide) (by decide) (by decide)
  by_cases k5 : t.Kind = 5
  · exact key [] 0 0 0 [] ⟨false, false, false, 0, 0, 0, List.isEmpty, noNum⟩ (by simp [rspec, k5]) (by simp [spec, k5]) rfl rfl rfl rfl rfl rfl (by rw [kidsM_nil]; simp [lastB, k5]) (by decide) (by decide) (by decide)
  by_cases k20 : t.Kind = 20
  · exact key [] 0 0 0 [] ⟨false, false, false, 0, 0, 0, List.isEmpty, noNum⟩ (by simp [rspec, k20]) (by simp [spec, k20]) rfl rfl rfl rfl rfl rfl (by rw [kidsM_nil]; simp [lastB, k20]) (by decide) (by decide) (by decide)
  by_cases k6 : t.Kind = 6
  · exact key [] 9 14 0 [(69, 0)] ⟨false, false, false, 9, 14, 0, eachB [isE], noNum⟩ (by simp [rspec, k6]) (by simp [spec, k6]) rfl rfl rfl rfl rfl rfl (by rw [kids1, fit_E]; simp [lastB, k6]) (by decide) (by decide) (by decide)
  by_cases k7 : t.Kind = 7
  · exact key [] 0 0 0 [(69, 0)] ⟨false, false, false, 0, 0, 0, eachB [isE], noNum⟩ (by simp [rspec, k7]) (by simp [spec, k7]) rfl rfl rfl rfl rfl rfl (by rw [kids1, fit_E]; simp [lastB, k7]) (by decide) (by decide) (by decide)
  by_cases k12 : t.Kind = 12
  · exact key [] (-64) 64 0 [(69, 0)] ⟨false, false, false, (-64), 64, 0, eachB [isE], noNum⟩ (by simp [rspec, k12]) (by simp [spec, k12]) rfl rfl rfl rfl rfl rfl (by rw [kids1, fit_E]; simp [lastB, k12]) (by decide) (by decide) (by decide)
  by_cases k21 : t.Kind = 21
  · exact key [78] 0 0 0 [] ⟨true, false, false, 0, 0, 0, List.isEmpty, noNum⟩ (by simp [rspec, k21]) (by simp [spec, k21]) rfl rfl rfl rfl rfl rfl (by rw [kidsM_nil]; simp [lastB, k21]) (by decide) (by decide) (by decide)
  by_cases k22 : t.Kind = 22
  · exact key [] 0 0 0 [(100, 0), (100, 0)] ⟨false, false, false, 0, 0, 0, eachB [isD, isD], noNum⟩ (by simp [rspec, k22]) (by simp [spec, k22]) rfl rfl rfl rfl rfl rfl (by rw [kids2, fit_d]; simp [lastB, k22]) (by decide) (by decide) (by decide)
  by_cases k23 : t.Kind = 23
  · exact key [] 0 0 0 [(100, 0), (100, 0)] ⟨false, false, false, 0, 0, 0, eachB [isD, isD], noNum⟩ (by simp [rspec, k23]) (by simp [spec, k23]) rfl rfl rfl rfl rfl rfl (by rw [kids2, fit_d]; simp [lastB, k23]) (by decide) (by decide) (by decide)
  by_cases k24 : t.Kind = 24
  · exact key [82] 0 0 0 [(100, 0)] ⟨false, false, false, 0, 0, 0, eachB [isD], powB⟩ (by simp [rspec, k24]) (by simp [spec, k24]) rfl rfl rfl rfl rfl rfl (by rw [kids1, fit_d]; simp [lastB, k24]) (by decide) (by decide) (by decide)
  have hn : rspec t.Kind = none := by
    unfold rspec
    simp [k30, k31, k32, k33, k34, k35, k36, k37, k38, k39, k8, k9, k10, k11, k40, k41, k1, k2, k3, k4, k5, k20, k6, k7, k12, k21, k22, k23, k24]
  have hs := rspec_ev t.Kind
  rw [hn] at hs
  have e : oneB nm ixR t = false := by
    unfold oneB spec
    simp [k30, k31, k32, k33, k34, k35, k36, k37, k38, k39, k8, k9, k10, k11, k40, k41, k1, k2, k3, k4, k5, k20, k6, k7, k12, k21, k22, k23, k24]
  rw [e]
  refine walk_ref13_one ?_
  unfold W_ref13_one
  exact Call.mk hs ⟨fun b => b = true, Br.t rfl rfl, by rintro _ rfl; exact Br.t rfl rfl⟩
end
end Go.Sim.YtomeghkmdcfolaaGreatDoor
