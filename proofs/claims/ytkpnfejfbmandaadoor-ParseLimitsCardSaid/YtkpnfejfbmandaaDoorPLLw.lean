import Derived.Test.YtkpnfejfbmandaaDoorPLPureParseLimits
import Derived.Test.YtkpnfejfbmandaaDoorPLCc
import Derived.WalkLawsBesides
/- The walk of tmplpipelaw12.ParseLimits. -/
namespace Go.Proofs.YtkpnfejfbmandaaDoor.Px
open Go.RowKit Go.Proofs.YtkpnfejfbmandaaDoorW.PrintWords Go.Proofs.YtkpnfejfbmandaaDoorW.PrintLast Go.Proofs.YtkpnfejfbmandaaDoorW.PrintMore
set_option linter.unusedVariables false
set_option linter.unusedSimpArgs false
theorem nest_any {l : List S78} (h : nL l ≤ 1000000000) (A : Option Addr) (c : Nat) (w : World) (hC : Kd.C k78 w A l.length l) (hc : l.length ≤ c) :
    Calls Tryd.prog 12 #[.slice A l.length c] w fun e w' => e = .returned (.int .i64 (nstL l)) ∧ Below w.heap.size w w' := by
  obtain ⟨K, hK⟩ := nest_ev l h
  exact parse_Nest.calls K A c l _ w hC hc (hK K (Nat.le_refl _))
theorem byteArray_ext' {a b : ByteArray} (h : a.data = b.data) : a = b := by cases a; cases b; simp at h; rw [h]
theorem app_bytes {a b c : List UInt8} {l : List UInt8} (h : a ++ b ++ c = l) : (⟨a.toArray⟩ : ByteArray) ++ ⟨b.toArray⟩ ++ ⟨c.toArray⟩ = ⟨l.toArray⟩ := by
  subst h
  apply byteArray_ext'
  simp [ByteArray.data_append]
set_option maxHeartbeats 4000000 in
set_option maxRecDepth 100000 in
theorem limits_if (n : Int) (k : Nat) (hk : (n.tmod 40 : Int) = (k : Int)) (hk1 : k ≤ 39) (w : World) (hG : GS w) (h0 : 0 ≤ n) (h1 : n ≤ 255) : Calls Tryd.prog 3 #[.int .u8 n, .bool false] w fun e w' => e = .returned (.bool true) ∧ Below w.heap.size w w' := by
  have hG0 := Aside0.mk hG
  clear hG
  have L := Aside0.mk (if_law k hk1)
  have z1 : (⟨(Lib.repeatL (⟨#[123, 123, 105, 102, 32, 46, 97, 125, 125]⟩ : ByteArray).data.toList k).toArray⟩ : ByteArray).size = 9 * k := by rw [← data_length]; simp [Lib.repeatL_length]; omega
  have z2 : (⟨(Lib.repeatL (⟨#[123, 123, 101, 110, 100, 125, 125]⟩ : ByteArray).data.toList k).toArray⟩ : ByteArray).size = 7 * k := by rw [← data_length]; simp [Lib.repeatL_length]; omega
  have zs : ((⟨(Lib.repeatL (⟨#[123, 123, 105, 102, 32, 46, 97, 125, 125]⟩ : ByteArray).data.toList k).toArray⟩ : ByteArray) ++ ⟨#[120]⟩ ++ ⟨(Lib.repeatL (⟨#[123, 123, 101, 110, 100, 125, 125]⟩ : ByteArray).data.toList k).toArray⟩) = ⟨(Lib.repeatL (brac [105, 102, 32, 46, 97]) k ++ 120 :: Lib.repeatL (brac endU) k).toArray⟩ := by
    refine app_bytes ?_
    simp only [List.append_assoc, List.singleton_append]
    rfl
  generalize hR1 : (⟨(Lib.repeatL (⟨#[123, 123, 105, 102, 32, 46, 97, 125, 125]⟩ : ByteArray).data.toList k).toArray⟩ : ByteArray) = R1 at z1 zs
  generalize hR2 : (⟨(Lib.repeatL (⟨#[123, 123, 101, 110, 100, 125, 125]⟩ : ByteArray).data.toList k).toArray⟩ : ByteArray) = R2 at z2 zs
  have zt : (R1 ++ ⟨#[120]⟩ ++ R2).size = 9 * k + 1 + 7 * k := by rw [ByteArray.size_append, ByteArray.size_append, z1, z2]; rfl
  replace z1 := Aside0.mk z1
  replace z2 := Aside0.mk z2
  replace zs := Aside0.mk zs
  replace zt := Aside0.mk zt
  have za : R1.size + 1 ≤ 9223372036854775807 := by rw [z1.out]; omega
  have zb : R1.size + 1 + R2.size ≤ 9223372036854775807 := by rw [z1.out, z2.out]; omega
  have kx : wrap64 ((k : Int) + 1) = ((k + 1 : Nat) : Int) := by unfold wrap64; omega
  replace hR1 := Aside0.mk hR1
  replace hR2 := Aside0.mk hR2
  go_enter Tryd.func3, Tryd.ntmps3
  go_wp2_with fail
  refine (Tryd.strings_Repeat ⟨#[123, 123, 105, 102, 32, 46, 97, 125, 125]⟩ k _ (by omega) (by show 9 * k ≤ _; omega)).mono ?_
  rintro e w1 ⟨rfl, HB⟩
  rw [hR1.out]
  replace HB := Aside0.mk HB
  go_wp2_with fail
  refine (Tryd.strings_Repeat ⟨#[123, 123, 101, 110, 100, 125, 125]⟩ k _ (by omega) (by show 7 * k ≤ _; omega)).mono ?_
  rintro e w2 ⟨rfl, HB2⟩
  rw [hR2.out]
  replace HB := Aside0.mk (below_step HB.out HB2)
  clear HB2
  by_cases hle : k ≤ 32
  · obtain ⟨l, hl, hc, hs, hn⟩ := L.out.good hle
    have hle' : decide ((32 : Int) < (k : Int)) = false := decide_eq_false (by omega)
    rw [← zs.out, show (((List.length ([105, 102, 32, 46, 97] : List UInt8) + 4) * k + 1 + 7 * k : Nat) : Int) = (R1.size : Int) + 1 + (R2.size : Int) from by rw [z1.out, z2.out]; simp only [List.length_cons, List.length_nil]; omega] at hl
    replace hl := Aside0.mk hl
    replace hc := Aside0.mk hc
    replace hs := Aside0.mk hs
    replace hn := Aside0.mk hn
    go_wp2_with fail
    refine (parse_any hl.out _ (hG0.out.below HB.out)).mono ?_
    rintro e w3 ⟨A, c, rfl, hC, hcl, HB2⟩
    dsimp only
    replace HB := Aside0.mk (below_step HB.out HB2)
    replace hC := Aside0.mk hC
    replace hcl := Aside0.mk hcl
    clear HB2
    go_wp2_with fail
    refine (parse_any (r := ([], 9, 13)) L.out.inner _ (hG0.out.below HB.out)).mono ?_
    rintro e w4 ⟨A4, c4, rfl, -, -, HB2⟩
    dsimp only
    have hC4 := Aside0.mk (Kd.C_below hC.out HB2)
    replace HB := Aside0.mk (below_step HB.out HB2)
    clear HB2 hC
    go_wp2_with fail
    refine (Tryd.strings_Repeat ⟨#[123, 123, 105, 102, 32, 46, 97, 125, 125]⟩ (k + 1) _ (by omega) (by show 9 * (k + 1) ≤ _; omega)).mono ?_
    rintro e w5 ⟨rfl, HB2⟩
    have hC5 := Aside0.mk (Kd.C_below hC4.out HB2)
    replace HB := Aside0.mk (below_step HB.out HB2)
    clear HB2 hC4
    have hcut : ∃ a e : Int, Ev (fun j => parse_Parse.f j ⟨(Lib.repeatL (⟨#[123, 123, 105, 102, 32, 46, 97, 125, 125]⟩ : ByteArray).data.toList (k + 1)).toArray⟩) ([], a, e) ∧ (((a == (k : Int) * 9) = true ∧ (e == 7) = true ∧ ((k : Int) == 32) = false) ∨ (((k : Int) == 32) = true ∧ (e == 13) = true ∧ (e == 7) = false)) := by
      rcases Nat.lt_or_ge k 32 with q | q
      · exact ⟨_, _, L.out.cut q, .inl ⟨by rw [beq_iff_eq]; simp only [List.length_cons, List.length_nil]; omega, rfl, beq_eq_false_iff_ne.mpr (by omega)⟩⟩
      · exact ⟨_, _, L.out.cut2 (by omega), .inr ⟨by rw [beq_iff_eq]; omega, rfl, rfl⟩⟩
    obtain ⟨ca, ce, hcv, hcc⟩ := hcut
    replace hcv := Aside0.mk hcv
    go_wp2_with fail
    refine (parse_any hcv.out _ (hG0.out.below HB.out)).mono ?_
    rintro e w6 ⟨A6, c6, rfl, -, -, HB2⟩
    dsimp only
    have hC6 := Aside0.mk (Kd.C_below hC5.out HB2)
    replace HB := Aside0.mk (below_step HB.out HB2)
    clear HB2 hC5 hcv
    rcases hcc with ⟨q1, q2, q3⟩ | ⟨q1, q2, q3⟩
    all_goals
      go_wp2_with fail
      refine (alive12_any _ (hG0.out.below HB.out)).mono ?_
      rintro e w7 ⟨rfl, HB2⟩
      have hC7 := Aside0.mk (Kd.C_below hC6.out HB2)
      replace HB := Aside0.mk (below_step HB.out HB2)
      clear HB2 hC6
      go_wp2_with fail
      refine (nest_any (by rw [hn.out]; omega) A c _ hC7.out hcl.out).mono ?_
      rintro e w8 ⟨rfl, HB2⟩
      rw [hs.out]
      have hC8 := Aside0.mk (Kd.C_below hC7.out HB2)
      replace HB := Aside0.mk (below_step HB.out HB2)
      clear HB2 hC7
      go_wp2_with fail
      refine (count_any (by rw [hn.out]; omega) A c _ hC8.out hcl.out).mono ?_
      rintro e w9 ⟨rfl, HB2⟩
      rw [hc.out]
      replace HB := Aside0.mk (below_step HB.out HB2)
      clear HB2 hC8
      go_wp2_with fail
      go_ret
      exact ⟨rfl, HB.out⟩
  · have hdp := Aside0.mk (L.out.deep (by omega))
    have hle' : decide ((32 : Int) < (k : Int)) = true := decide_eq_true (by omega)
    rw [← zs.out] at hdp
    go_wp2_with fail
    refine (parse_any hdp.out _ (hG0.out.below HB.out)).mono ?_
    rintro e w3 ⟨A, c, rfl, -, -, HB2⟩
    dsimp only
    replace HB := Aside0.mk (below_step HB.out HB2)
    clear HB2 hdp
    go_wp2_with fail
    refine (alive12_any _ (hG0.out.below HB.out)).mono ?_
    rintro e w4 ⟨rfl, HB2⟩
    replace HB := Aside0.mk (below_step HB.out HB2)
    clear HB2
    go_wp2_with fail
    go_ret
    exact ⟨rfl, HB.out⟩
set_option maxHeartbeats 4000000 in
set_option maxRecDepth 100000 in
theorem limits_range (n : Int) (k : Nat) (hk : (n.tmod 40 : Int) = (k : Int)) (hk1 : k ≤ 39) (w : World) (hG : GS w) (h0 : 0 ≤ n) (h1 : n ≤ 255) : Calls Tryd.prog 3 #[.int .u8 n, .bool true] w fun e w' => e = .returned (.bool true) ∧ Below w.heap.size w w' := by
  have hG0 := Aside0.mk hG
  clear hG
  have L := Aside0.mk (range_law k hk1)
  have z1 : (⟨(Lib.repeatL (⟨#[123, 123, 114, 97, 110, 103, 101, 32, 46, 97, 125, 125]⟩ : ByteArray).data.toList k).toArray⟩ : ByteArray).size = 12 * k := by rw [← data_length]; simp [Lib.repeatL_length]; omega
  have z2 : (⟨(Lib.repeatL (⟨#[123, 123, 101, 110, 100, 125, 125]⟩ : ByteArray).data.toList k).toArray⟩ : ByteArray).size = 7 * k := by rw [← data_length]; simp [Lib.repeatL_length]; omega
  have zs : ((⟨(Lib.repeatL (⟨#[123, 123, 114, 97, 110, 103, 101, 32, 46, 97, 125, 125]⟩ : ByteArray).data.toList k).toArray⟩ : ByteArray) ++ ⟨#[120]⟩ ++ ⟨(Lib.repeatL (⟨#[123, 123, 101, 110, 100, 125, 125]⟩ : ByteArray).data.toList k).toArray⟩) = ⟨(Lib.repeatL (brac [114, 97, 110, 103, 101, 32, 46, 97]) k ++ 120 :: Lib.repeatL (brac endU) k).toArray⟩ := by
    refine app_bytes ?_
    simp only [List.append_assoc, List.singleton_append]
    rfl
  generalize hR1 : (⟨(Lib.repeatL (⟨#[123, 123, 114, 97, 110, 103, 101, 32, 46, 97, 125, 125]⟩ : ByteArray).data.toList k).toArray⟩ : ByteArray) = R1 at z1 zs
  generalize hR2 : (⟨(Lib.repeatL (⟨#[123, 123, 101, 110, 100, 125, 125]⟩ : ByteArray).data.toList k).toArray⟩ : ByteArray) = R2 at z2 zs
  have zt : (R1 ++ ⟨#[120]⟩ ++ R2).size = 12 * k + 1 + 7 * k := by rw [ByteArray.size_append, ByteArray.size_append, z1, z2]; rfl
  replace z1 := Aside0.mk z1
  replace z2 := Aside0.mk z2
  replace zs := Aside0.mk zs
  replace zt := Aside0.mk zt
  have za : R1.size + 1 ≤ 9223372036854775807 := by rw [z1.out]; omega
  have zb : R1.size + 1 + R2.size ≤ 9223372036854775807 := by rw [z1.out, z2.out]; omega
  have kx : wrap64 ((k : Int) + 1) = ((k + 1 : Nat) : Int) := by unfold wrap64; omega
  replace hR1 := Aside0.mk hR1
  replace hR2 := Aside0.mk hR2
  go_enter Tryd.func3, Tryd.ntmps3
  go_wp2_with fail
  refine (Tryd.strings_Repeat ⟨#[123, 123, 114, 97, 110, 103, 101, 32, 46, 97, 125, 125]⟩ k _ (by omega) (by show 12 * k ≤ _; omega)).mono ?_
  rintro e w1 ⟨rfl, HB⟩
  rw [hR1.out]
  replace HB := Aside0.mk HB
  go_wp2_with fail
  refine (Tryd.strings_Repeat ⟨#[123, 123, 101, 110, 100, 125, 125]⟩ k _ (by omega) (by show 7 * k ≤ _; omega)).mono ?_
  rintro e w2 ⟨rfl, HB2⟩
  rw [hR2.out]
  replace HB := Aside0.mk (below_step HB.out HB2)
  clear HB2
  by_cases hle : k ≤ 32
  · obtain ⟨l, hl, hc, hs, hn⟩ := L.out.good hle
    have hle' : decide ((32 : Int) < (k : Int)) = false := decide_eq_false (by omega)
    rw [← zs.out, show (((List.length ([114, 97, 110, 103, 101, 32, 46, 97] : List UInt8) + 4) * k + 1 + 7 * k : Nat) : Int) = (R1.size : Int) + 1 + (R2.size : Int) from by rw [z1.out, z2.out]; simp only [List.length_cons, List.length_nil]; omega] at hl
    replace hl := Aside0.mk hl
    replace hc := Aside0.mk hc
    replace hs := Aside0.mk hs
    replace hn := Aside0.mk hn
    go_wp2_with fail
    refine (parse_any hl.out _ (hG0.out.below HB.out)).mono ?_
    rintro e w3 ⟨A, c, rfl, hC, hcl, HB2⟩
    dsimp only
    replace HB := Aside0.mk (below_step HB.out HB2)
    replace hC := Aside0.mk hC
    replace hcl := Aside0.mk hcl
    clear HB2
    go_wp2_with fail
    refine (parse_any (r := ([], 12, 13)) L.out.inner _ (hG0.out.below HB.out)).mono ?_
    rintro e w4 ⟨A4, c4, rfl, -, -, HB2⟩
    dsimp only
    have hC4 := Aside0.mk (Kd.C_below hC.out HB2)
    replace HB := Aside0.mk (below_step HB.out HB2)
    clear HB2 hC
    go_wp2_with fail
    refine (Tryd.strings_Repeat ⟨#[123, 123, 114, 97, 110, 103, 101, 32, 46, 97, 125, 125]⟩ (k + 1) _ (by omega) (by show 12 * (k + 1) ≤ _; omega)).mono ?_
    rintro e w5 ⟨rfl, HB2⟩
    have hC5 := Aside0.mk (Kd.C_below hC4.out HB2)
    replace HB := Aside0.mk (below_step HB.out HB2)
    clear HB2 hC4
    have hcut : ∃ a e : Int, Ev (fun j => parse_Parse.f j ⟨(Lib.repeatL (⟨#[123, 123, 114, 97, 110, 103, 101, 32, 46, 97, 125, 125]⟩ : ByteArray).data.toList (k + 1)).toArray⟩) ([], a, e) ∧ (((a == (k : Int) * 12) = true ∧ (e == 7) = true ∧ ((k : Int) == 32) = false) ∨ (((k : Int) == 32) = true ∧ (e == 13) = true ∧ (e == 7) = false)) := by
      rcases Nat.lt_or_ge k 32 with q | q
      · exact ⟨_, _, L.out.cut q, .inl ⟨by rw [beq_iff_eq]; simp only [List.length_cons, List.length_nil]; omega, rfl, beq_eq_false_iff_ne.mpr (by omega)⟩⟩
      · exact ⟨_, _, L.out.cut2 (by omega), .inr ⟨by rw [beq_iff_eq]; omega, rfl, rfl⟩⟩
    obtain ⟨ca, ce, hcv, hcc⟩ := hcut
    replace hcv := Aside0.mk hcv
    go_wp2_with fail
    refine (parse_any hcv.out _ (hG0.out.below HB.out)).mono ?_
    rintro e w6 ⟨A6, c6, rfl, -, -, HB2⟩
    dsimp only
    have hC6 := Aside0.mk (Kd.C_below hC5.out HB2)
    replace HB := Aside0.mk (below_step HB.out HB2)
    clear HB2 hC5 hcv
    rcases hcc with ⟨q1, q2, q3⟩ | ⟨q1, q2, q3⟩
    all_goals
      go_wp2_with fail
      refine (alive12_any _ (hG0.out.below HB.out)).mono ?_
      rintro e w7 ⟨rfl, HB2⟩
      have hC7 := Aside0.mk (Kd.C_below hC6.out HB2)
      replace HB := Aside0.mk (below_step HB.out HB2)
      clear HB2 hC6
      go_wp2_with fail
      refine (nest_any (by rw [hn.out]; omega) A c _ hC7.out hcl.out).mono ?_
      rintro e w8 ⟨rfl, HB2⟩
      rw [hs.out]
      have hC8 := Aside0.mk (Kd.C_below hC7.out HB2)
      replace HB := Aside0.mk (below_step HB.out HB2)
      clear HB2 hC7
      go_wp2_with fail
      refine (count_any (by rw [hn.out]; omega) A c _ hC8.out hcl.out).mono ?_
      rintro e w9 ⟨rfl, HB2⟩
      rw [hc.out]
      replace HB := Aside0.mk (below_step HB.out HB2)
      clear HB2 hC8
      go_wp2_with fail
      go_ret
      exact ⟨rfl, HB.out⟩
  · have hdp := Aside0.mk (L.out.deep (by omega))
    have hle' : decide ((32 : Int) < (k : Int)) = true := decide_eq_true (by omega)
    rw [← zs.out] at hdp
    go_wp2_with fail
    refine (parse_any hdp.out _ (hG0.out.below HB.out)).mono ?_
    rintro e w3 ⟨A, c, rfl, -, -, HB2⟩
    dsimp only
    replace HB := Aside0.mk (below_step HB.out HB2)
    clear HB2 hdp
    go_wp2_with fail
    refine (alive12_any _ (hG0.out.below HB.out)).mono ?_
    rintro e w4 ⟨rfl, HB2⟩
    replace HB := Aside0.mk (below_step HB.out HB2)
    clear HB2
    go_wp2_with fail
    go_ret
    exact ⟨rfl, HB.out⟩
theorem limits_walk (n : Int) (which : Bool) (w : World) (hG : GS w) (h0 : 0 ≤ n) (h1 : n ≤ 255) : Calls Tryd.prog 3 #[.int .u8 n, .bool which] w fun e w' => e = .returned (.bool true) ∧ Below w.heap.size w w' := by
  obtain ⟨k, hk⟩ : ∃ k : Nat, (n.tmod 40 : Int) = (k : Int) := ⟨(n.tmod 40).toNat, by rw [Int.toNat_of_nonneg (Int.tmod_nonneg _ h0)]⟩
  have hk1 : k ≤ 39 := by have := Int.tmod_lt_of_pos n (show (0:Int) < 40 by decide); omega
  cases which
  · exact limits_if n k hk hk1 w hG h0 h1
  · exact limits_range n k hk hk1 w hG h0 h1
theorem u8_wf {a : Int} (h : (Lit.int .u8 a).wf = true) : 0 ≤ a ∧ a ≤ 255 := by
  unfold Lit.wf at h
  rw [Bool.and_eq_true] at h
  exact ⟨of_decide_eq_true h.1, of_decide_eq_true h.2⟩
end Go.Proofs.YtkpnfejfbmandaaDoor.Px
