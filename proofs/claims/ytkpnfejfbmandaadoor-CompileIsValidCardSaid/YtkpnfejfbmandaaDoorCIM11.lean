import Derived.Test.YtkpnfejfbmandaaDoorCIM10
import Derived.Test.YtkpnfejfbmandaaDoorCIM2
/- Contract of the reference parser's node: written by hand. -/
namespace Go.Proofs.YtkpnfejfbmandaaDoor.Px
open Go.RowKit Go.Proofs.YtkpnfejfbmandaaDoorW.PrintWords Go.Proofs.YtkpnfejfbmandaaDoorW.PrintLast Go.Proofs.YtkpnfejfbmandaaDoorW.PrintMore
set_option linter.unusedVariables false
set_option linter.unusedSimpArgs false
@[irreducible] def blkB (a : Int) : Bool := a == 2 || a == 3 || a == 6
theorem blkB_iff (a : Int) : blkB a = true ↔ (a = 2 ∨ a = 3 ∨ a = 6) := by unfold blkB; simp [or_assoc]
theorem block_any (a : Int) (w : World) : Calls Tryd.prog 88 #[.int .i64 a] w fun e w' => e = .returned (.bool (blkB a)) ∧ w = w' := by
  unfold blkB
  by_cases h2 : (a == 2) = true
  · go_enter Tryd.func88, Tryd.ntmps88
    go_wp2
    go_ret
    exact ⟨by simp [h2], rfl⟩
  · have h2' : (a == 2) = false := by simpa using h2
    by_cases h3 : (a == 3) = true
    · go_enter Tryd.func88, Tryd.ntmps88
      go_wp2
      go_ret
      exact ⟨by simp [h2, h3], rfl⟩
    · have h3' : (a == 3) = false := by simpa using h3
      go_enter Tryd.func88, Tryd.ntmps88
      go_wp2
      go_ret
      exact ⟨by simp [h2', h3'], rfl⟩
set_option maxHeartbeats 4000000 in
set_option maxRecDepth 100000 in
theorem rnode.step (k : Nat) (ihl : ∀ m, m < k → rlist.Con m) : rnode.Con k := by
  intro g A c l i n dp x r2 r3 i' n' w0 w hS hr hc h
  have hgw : g < w.heap.size := hS.lt
  cases k with
  | zero => exact absurd h (by simp [rnode])
  | succ k =>
  have HL := Aside0.mk ihl; clear ihl
  simp only [rnode] at h
  by_cases hi : 0 ≤ i ∧ i < (l.length : Int) ∧ i ≤ 100000 ∧ 0 ≤ n ∧ 0 ≤ dp
  case neg => rw [if_neg hi] at h; cases h
  rw [if_pos hi] at h
  have H := Aside0.mk h; clear h
  obtain ⟨hi0, hil, hi1, hn0, hdp⟩ := hi
  obtain ⟨ad, rfl, x0, x1, x2, x3, x4⟩ := at_T140 hr i hi0 hil
  have HR := Aside0.mk hr; clear hr
  have hb0 : w.cell? ⟨g, 0, none⟩ = some (.slice (some ad) l.length c) := (hS.cell 0).trans rfl
  have hb1 : w.cell? ⟨g, 1, none⟩ = some (.int .i64 i) := (hS.cell 1).trans rfl
  have hb2 : w.cell? ⟨g, 2, none⟩ = some (.int .i64 n) := (hS.cell 2).trans rfl
  have hf1 := hS.frozen 1
  have hf2 := hS.frozen 2
  replace x0 := hS.old x0
  replace x1 := hS.old x1
  replace x2 := hS.old x2
  replace x3 := hS.old x3
  replace x4 := hS.old x4
  have hads := World.block_lt_of_cell? _ _ x1
  replace HS := Aside0.mk hS; clear hS
  generalize hT : rd_T140 l i = t at *
  replace hT := Aside0.mk hT
  by_cases h6 : t.f0 = 6 ∧ dp > 0
  · have H2 := H.out; clear H
    rw [if_pos h6] at H2
    simp only [Option.some.injEq, Prod.mk.injEq] at H2
    obtain ⟨rfl, rfl, rfl, rfl, rfl⟩ := H2
    have h6' : (t.f0 == 6) = true := beq_iff_eq.mpr h6.1
    have hd' := h6.2
    clear h6
    go_enter Tryd.func68, Tryd.ntmps68
    go_wp2
    go_region
    go_wp2
    go_region
    go_wp2
    refine bodyPost_ret (results_ctt rfl _ _ w.heap.size 78 #[.int .i64 0, .int .i64 0, .string ⟨#[]⟩, .string ⟨#[]⟩, .bool false, .bool false, .slice none 0 0, .slice none 0 0] (0, 0) _ rfl ?_ Tryd.underlying78 rfl (by kernel_rfl)) rfl ?_
    · repeat (first | exact blk_new _ _ | refine blk_drew ?_ | refine blk_alloc ?_ _)
    · exact ⟨_, _, rfl, Kd.R_nil _ _ _ _ _, Kd.R_nil _ _ _ _ _, (by repeat (first | exact HS.out | apply Stp.drew | refine Stp.alloc ?_ _))⟩
  rw [if_neg h6] at H
  by_cases hbd : (t.f0 = 2 ∨ t.f0 = 3 ∨ t.f0 = 6) ∧ dp ≥ 32
  · have H2 := H.out; clear H
    rw [if_pos hbd] at H2
    simp only [Option.some.injEq, Prod.mk.injEq] at H2
    obtain ⟨rfl, rfl, rfl, rfl, rfl⟩ := H2
    have hd' : 0 < dp := by omega
    have h6' : (t.f0 == 6) = false := by rw [beq_eq_false_iff_ne]; intro e; exact h6 ⟨e, hd'⟩
    have hbv : blkB t.f0 = true := (blkB_iff _).2 hbd.1
    have hd2 : 32 ≤ dp := hbd.2
    clear h6 hbd
    go_enter Tryd.func68, Tryd.ntmps68
    go_wp2
    go_region
    go_wp2_with (go_at_call 88; refine (block_any _ _).mono ?_; rintro e w' ⟨rfl, rfl⟩)
    go_region
    go_wp2
    refine bodyPost_ret (results_ctt rfl _ _ w.heap.size 78 #[.int .i64 0, .int .i64 0, .string ⟨#[]⟩, .string ⟨#[]⟩, .bool false, .bool false, .slice none 0 0, .slice none 0 0] (0, 0) _ rfl ?_ Tryd.underlying78 rfl (by kernel_rfl)) rfl ?_
    · repeat (first | exact blk_new _ _ | refine blk_drew ?_ | refine blk_alloc ?_ _)
    · exact ⟨_, _, rfl, Kd.R_nil _ _ _ _ _, Kd.R_nil _ _ _ _ _, (by repeat (first | exact HS.out | apply Stp.drew | refine Stp.alloc ?_ _))⟩
  rw [if_neg hbd] at H
  have h4 : ((t.f0 == 6) = true ∧ blkB t.f0 = true ∧ decide (0 < dp) = false ∧ dp < 32) ∨ ((t.f0 == 6) = false ∧ ((blkB t.f0 = true ∧ dp < 32) ∨ blkB t.f0 = false)) := by
    by_cases e6 : t.f0 = 6
    · have hd0 : ¬ dp > 0 := fun hd => h6 ⟨e6, hd⟩
      exact .inl ⟨beq_iff_eq.mpr e6, (blkB_iff _).2 (.inr (.inr e6)), decide_eq_false hd0, by omega⟩
    · refine .inr ⟨beq_eq_false_iff_ne.mpr e6, ?_⟩
      by_cases eb : t.f0 = 2 ∨ t.f0 = 3 ∨ t.f0 = 6
      · refine .inl ⟨(blkB_iff _).2 eb, ?_⟩
        rcases Int.lt_or_le dp 32 with h | h
        · exact h
        · exact absurd ⟨eb, h⟩ hbd
      · refine .inr ?_
        rw [← Bool.not_eq_true, blkB_iff]; exact eb
  clear h6 hbd
  by_cases hn : n ≥ 4096
  · have H2 := H.out; clear H
    rw [if_pos hn] at H2
    simp only [Option.some.injEq, Prod.mk.injEq] at H2
    obtain ⟨rfl, rfl, rfl, rfl, rfl⟩ := H2
    have hn' : 4096 ≤ n := hn
    clear hn
    rcases h4 with ⟨e6, eb, ed, ed2⟩ | ⟨e6, ⟨eb, ed2⟩ | eb⟩
    all_goals
      go_enter Tryd.func68, Tryd.ntmps68
      go_wp2
      go_region
      go_wp2_with (go_at_call 88; refine (block_any _ _).mono ?_; rintro e w' ⟨rfl, rfl⟩)
      go_region
      go_wp2
      refine bodyPost_ret (results_ctt rfl _ _ w.heap.size 78 #[.int .i64 0, .int .i64 0, .string ⟨#[]⟩, .string ⟨#[]⟩, .bool false, .bool false, .slice none 0 0, .slice none 0 0] (0, 0) _ rfl ?_ Tryd.underlying78 rfl (by kernel_rfl)) rfl ?_
      · repeat (first | exact blk_new _ _ | refine blk_drew ?_ | refine blk_alloc ?_ _)
      · exact ⟨_, _, rfl, Kd.R_nil _ _ _ _ _, Kd.R_nil _ _ _ _ _, (by repeat (first | exact HS.out | apply Stp.drew | refine Stp.alloc ?_ _))⟩
  rw [if_neg hn] at H
  replace hn : n < 4096 := by omega
  by_cases eb : (t.f0 = 2 ∨ t.f0 = 3 ∨ t.f0 = 6)
  case neg =>
    rw [if_neg eb] at H
    have H2 := H.out; clear H
    simp only [Option.some.injEq, Prod.mk.injEq] at H2
    obtain ⟨rfl, rfl, rfl, rfl, rfl⟩ := H2
    have ebv : blkB t.f0 = false := by rw [← Bool.not_eq_true, blkB_iff]; exact eb
    have e6 : (t.f0 == 6) = false := beq_eq_false_iff_ne.mpr (fun e => eb (.inr (.inr e)))
    clear h4 eb
    go_enter Tryd.func68, Tryd.ntmps68
    go_wp2
    go_region
    go_wp2_with (go_at_call 88; refine (block_any _ _).mono ?_; rintro e w' ⟨rfl, rfl⟩)
    refine bodyPost_ret (results_ctt rfl _ _ w.heap.size 78 #[.int .i64 t.f0, .int .i64 t.f1, .string t.f2, .string t.f3, .bool t.f4, .bool false, .slice none 0 0, .slice none 0 0] (0, 0) _ rfl ?_ Tryd.underlying78 rfl (by kernel_rfl)) rfl ?_
    · repeat (first | (refine blk_new' ?_; simp; done) | refine blk_drew ?_ | refine blk_alloc ?_ _)
    · exact ⟨_, _, rfl, Kd.R_nil _ _ _ _ _, Kd.R_nil _ _ _ _ _, (((((HS.out.set 2 (.int .i64 (n + 1))).set 1 (.int .i64 (i + 1))).alloc _).alloc _).alloc _).drew.cast rfl⟩
  have ebv : blkB t.f0 = true := (blkB_iff _).2 eb
  have e46 : ((t.f0 == 6) = true ∧ decide (0 < dp) = false ∧ dp < 32) ∨ ((t.f0 == 6) = false ∧ dp < 32) := by
    rcases h4 with ⟨e6, _, ed, ed2⟩ | ⟨e6, ⟨_, ed2⟩ | eb'⟩
    · exact .inl ⟨e6, ed, ed2⟩
    · exact .inr ⟨e6, ed2⟩
    · rw [ebv] at eb'; cases eb'
  clear h4
  rw [if_pos eb] at H
  clear eb
  obtain ⟨⟨rb, q2, q3, i1, n1⟩, hl1, H⟩ := Option.bind_eq_some_iff.1 H.out
  replace H := Aside0.mk H
  replace hl1 := Aside0.mk hl1
  rcases e46 with ⟨e6, ed, ed2⟩ | ⟨e6, ed2⟩
  all_goals
    go_enter Tryd.func68, Tryd.ntmps68
    go_wp2
    go_region
    go_wp2_with (go_at_call 88; refine (block_any _ _).mono ?_; rintro e w' ⟨rfl, rfl⟩)
    have HS1 := (((((HS.out.set 2 (.int .i64 (n + 1))).set 1 (.int .i64 (i + 1))).alloc (.cells #[.int .i64 0, .int .i64 0, .string ⟨#[]⟩, .string ⟨#[]⟩, .bool false, .bool false, .slice none 0 0, .slice none 0 0] 78)).alloc (.cells #[.int .i64 t.f0, .int .i64 t.f1, .string t.f2, .string t.f3, .bool t.f4] 140)).alloc (.cells #[.int .i64 t.f0, .int .i64 t.f1, .string t.f2, .string t.f3, .bool t.f4, .bool false, .slice none 0 0, .slice none 0 0] 78)).drew.cast (cs' := stC (some ad) c l (i + 1) (n + 1)) rfl
    refine (HL.out k (by omega) g _ c l (i + 1) (n + 1) t.f0 false (dp + 1) rb q2 q3 i1 n1 w0 _ HS1.again HR.out hc hl1.out).mono ?_
    rintro e w2 ⟨v6, rfl, R6, S2⟩
    have B4 := S2.other (k := w.heap.size) (o := .cells #[.int .i64 0, .int .i64 0, .string ⟨#[]⟩, .string ⟨#[]⟩, .bool false, .bool false, .slice none 0 0, .slice none 0 0] 78) (by repeat (first | (refine blk_new' ?_; simp; done) | refine blk_drew ?_ | refine blk_alloc ?_ _)) (by omega)
    have B7 := S2.other (k := w.heap.size + 1) (o := .cells #[.int .i64 t.f0, .int .i64 t.f1, .string t.f2, .string t.f3, .bool t.f4] 140) (by repeat (first | (refine blk_new' ?_; simp; done) | refine blk_drew ?_ | refine blk_alloc ?_ _)) (by omega)
    have B8 := S2.other (k := w.heap.size + 1 + 1) (o := .cells #[.int .i64 t.f0, .int .i64 t.f1, .string t.f2, .string t.f3, .bool t.f4, .bool false, .slice none 0 0, .slice none 0 0] 78) (by repeat (first | (refine blk_new' ?_; simp; done) | refine blk_drew ?_ | refine blk_alloc ?_ _)) (by omega)
    replace R6 := Kd.R_lower (base' := w.heap.size + 1 + 1 + 1) R6 (by simp)
    have HS2 := HS1.call S2
    clear HS1 S2 HS hb0 hb1 hb2 hf1 hf2 x0 x1 x2 x3 x4 hads
    obtain ⟨A6, c6, rfl⟩ := Kd.R_slice R6
    have hsz := blk_lt B8
    have hne4 : g ≠ w.heap.size := by omega
    have hne7 : g ≠ w.heap.size + 1 := by omega
    have hne8 : g ≠ w.heap.size + 1 + 1 := by omega
    have c40 : w2.cell? ⟨w.heap.size, 0, none⟩ = some (.int .i64 0) := (blk_cell B4 0).trans rfl
    have c41 : w2.cell? ⟨w.heap.size, 1, none⟩ = some (.int .i64 0) := (blk_cell B4 1).trans rfl
    have c42 : w2.cell? ⟨w.heap.size, 2, none⟩ = some (.string ⟨#[]⟩) := (blk_cell B4 2).trans rfl
    have c43 : w2.cell? ⟨w.heap.size, 3, none⟩ = some (.string ⟨#[]⟩) := (blk_cell B4 3).trans rfl
    have c44 : w2.cell? ⟨w.heap.size, 4, none⟩ = some (.bool false) := (blk_cell B4 4).trans rfl
    have c45 : w2.cell? ⟨w.heap.size, 5, none⟩ = some (.bool false) := (blk_cell B4 5).trans rfl
    have c46 : w2.cell? ⟨w.heap.size, 6, none⟩ = some (.slice none 0 0) := (blk_cell B4 6).trans rfl
    have c47 : w2.cell? ⟨w.heap.size, 7, none⟩ = some (.slice none 0 0) := (blk_cell B4 7).trans rfl
    have z40 := blk_frozen B4 0
    have z41 := blk_frozen B4 1
    have z42 := blk_frozen B4 2
    have z43 := blk_frozen B4 3
    have z44 := blk_frozen B4 4
    have z45 := blk_frozen B4 5
    have z46 := blk_frozen B4 6
    have z140 := blk_frozen B4 7
    have c70 : w2.cell? ⟨w.heap.size + 1, 0, none⟩ = some (.int .i64 t.f0) := (blk_cell B7 0).trans rfl
    have c71 : w2.cell? ⟨w.heap.size + 1, 1, none⟩ = some (.int .i64 t.f1) := (blk_cell B7 1).trans rfl
    have c80 : w2.cell? ⟨w.heap.size + 1 + 1, 0, none⟩ = some (.int .i64 t.f0) := (blk_cell B8 0).trans rfl
    have c81 : w2.cell? ⟨w.heap.size + 1 + 1, 1, none⟩ = some (.int .i64 t.f1) := (blk_cell B8 1).trans rfl
    have c82 : w2.cell? ⟨w.heap.size + 1 + 1, 2, none⟩ = some (.string t.f2) := (blk_cell B8 2).trans rfl
    have c83 : w2.cell? ⟨w.heap.size + 1 + 1, 3, none⟩ = some (.string t.f3) := (blk_cell B8 3).trans rfl
    have c84 : w2.cell? ⟨w.heap.size + 1 + 1, 4, none⟩ = some (.bool t.f4) := (blk_cell B8 4).trans rfl
    have c85 : w2.cell? ⟨w.heap.size + 1 + 1, 5, none⟩ = some (.bool false) := (blk_cell B8 5).trans rfl
    have c86 : w2.cell? ⟨w.heap.size + 1 + 1, 6, none⟩ = some (.slice none 0 0) := (blk_cell B8 6).trans rfl
    have c87 : w2.cell? ⟨w.heap.size + 1 + 1, 7, none⟩ = some (.slice none 0 0) := (blk_cell B8 7).trans rfl
    have z85 := blk_frozen B8 5
    have z86 := blk_frozen B8 6
    have z87 := blk_frozen B8 7
    replace B4 := Aside0.mk B4
    replace B7 := Aside0.mk B7
    replace B8 := Aside0.mk B8
    replace R6 := Aside0.mk R6
    have hb0 : w2.cell? ⟨g, 0, none⟩ = some (.slice (some ad) l.length c) := (HS2.cell 0).trans rfl
    have hb1 : w2.cell? ⟨g, 1, none⟩ = some (.int .i64 i1) := (HS2.cell 1).trans rfl
    have hf1 := HS2.frozen 1
    replace HS2 := Aside0.mk HS2
    have hB4 : w.heap.size < w.heap.size + 1 + 1 + 1 := by omega
    have hB8 : w.heap.size + 1 + 1 < w.heap.size + 1 + 1 + 1 := by omega
    have hBg : g < w.heap.size + 1 + 1 + 1 := by omega
    have hle9 : w.heap.size ≤ w.heap.size + 1 + 1 + 1 := by omega
    have hle8 : w.heap.size ≤ w.heap.size + 1 + 1 := by omega
    have hne48 : w.heap.size ≠ w.heap.size + 1 + 1 := by omega
    by_cases h3 : q3 = 0
    case neg =>
      have H2 := H.out; clear H
      rw [if_neg h3] at H2
      have h3' : (q3 != 0) = true := by simp [h3]
      clear h3
      simp only [Option.some.injEq, Prod.mk.injEq] at H2
      obtain ⟨rfl, rfl, rfl, rfl, rfl⟩ := H2
      go_wp2
      refine bodyPost_ret (results_ctt rfl _ _ w.heap.size 78 #[.int .i64 0, .int .i64 0, .string ⟨#[]⟩, .string ⟨#[]⟩, .bool false, .bool false, .slice none 0 0, .slice none 0 0] (0, 0) _ rfl ?_ Tryd.underlying78 rfl (by kernel_rfl)) rfl ?_
      · repeat (first | (with_reducible exact B4.out) | (with_reducible refine blk_drewN ?_ _) | (with_reducible refine blk_drew ?_) | (with_reducible refine blk_set8 (cs := #[.int .i64 0, .int .i64 0, .string ⟨#[]⟩, .string ⟨#[]⟩, .bool false, .bool false, .slice none 0 0, .slice none 0 0]) ?_ rfl _ _ _ _ _ _ _ _) | (with_reducible refine blk_far' ?_ hne4.symm _) | (with_reducible refine blk_far' ?_ hne48 _))
      · exact ⟨_, _, rfl, Kd.R_nil _ _ _ _ _, Kd.R_nil _ _ _ _ _, (by repeat (first | (with_reducible exact HS2.out) | (with_reducible apply Stp.drew) | (with_reducible refine Stp.drewN ?_ _) | (with_reducible refine Stp.far' ?_ (Nat.le_refl _) hne4 _) | (with_reducible refine Stp.far' ?_ hle8 hne8 _)))⟩
    rw [if_pos h3] at H
    have h3' : (q3 != 0) = false := by simp [h3]
    clear h3
    by_cases hlt : i1 < (l.length : Int)
    case neg =>
      have H2 := H.out; clear H
      rw [if_neg hlt] at H2
      simp only [Option.some.injEq, Prod.mk.injEq] at H2
      obtain ⟨rfl, rfl, rfl, rfl, rfl⟩ := H2
      have hlt' : decide (i1 < (l.length : Int)) = false := decide_eq_false hlt
      go_wp2
      go_quiet (fail)
      go_wp2
      go_quiet (fail)
      go_wp2
      go_region
      go_wp2
      refine bodyPost_ret (results_ctt rfl _ _ w.heap.size 78 #[.int .i64 0, .int .i64 0, .string ⟨#[]⟩, .string ⟨#[]⟩, .bool false, .bool false, .slice none 0 0, .slice none 0 0] (0, 0) _ rfl ?_ Tryd.underlying78 rfl (by kernel_rfl)) rfl ?_
      · repeat (first | (with_reducible exact B4.out) | (with_reducible refine blk_drewN ?_ _) | (with_reducible refine blk_drew ?_) | (with_reducible refine blk_set8 (cs := #[.int .i64 0, .int .i64 0, .string ⟨#[]⟩, .string ⟨#[]⟩, .bool false, .bool false, .slice none 0 0, .slice none 0 0]) ?_ rfl _ _ _ _ _ _ _ _) | (with_reducible refine blk_far' ?_ hne4.symm _) | (with_reducible refine blk_far' ?_ hne48 _))
      · exact ⟨_, _, rfl, Kd.R_nil _ _ _ _ _, Kd.R_nil _ _ _ _ _, (by repeat (first | (with_reducible exact HS2.out) | (with_reducible apply Stp.drew) | (with_reducible refine Stp.drewN ?_ _) | (with_reducible refine Stp.far' ?_ (Nat.le_refl _) hne4 _) | (with_reducible refine Stp.far' ?_ hle8 hne8 _)))⟩
    rw [if_pos hlt] at H
    by_cases hi : 0 ≤ i1 ∧ i1 ≤ 100000
    case neg => have H2 := H.out; rw [if_neg hi] at H2; cases H2
    rw [if_pos hi] at H
    obtain ⟨hi10, hi11⟩ := hi
    obtain ⟨ad', he, y0, _⟩ := at_T140 HR.out i1 hi10 hlt
    cases he
    have hadb := World.block_lt_of_cell? _ _ y0
    have y1 := (HS2.out.far' (j := 6) hle8 hne8 (.slice A6 rb.length c6)).old y0
    replace y0 := HS2.out.old y0
    have hle := HS2.out.le
    have hna4 : (ad.add (i1.toNat * 5)).block ≠ w.heap.size := by omega
    have hna8 : (ad.add (i1.toNat * 5)).block ≠ w.heap.size + 1 + 1 := by omega
    by_cases h7 : (rd_T140 l i1).f0 = 7
    case neg =>
      have H2 := H.out; clear H
      rw [if_neg h7] at H2
      simp only [Option.some.injEq, Prod.mk.injEq] at H2
      obtain ⟨rfl, rfl, rfl, rfl, rfl⟩ := H2
      have h7' : ((rd_T140 l i1).f0 == 7) = false := beq_eq_false_iff_ne.mpr h7
      clear h7
      go_wp2
      go_quiet (fail)
      go_wp2
      go_quiet (fail)
      go_wp2
      refine bodyPost_ret (results_ctt rfl _ _ w.heap.size 78 #[.int .i64 t.f0, .int .i64 t.f1, .string t.f2, .string t.f3, .bool t.f4, .bool false, .slice A6 rb.length c6, .slice none 0 0] (0, 0) _ rfl ?_ Tryd.underlying78 rfl (by kernel_rfl)) rfl ?_
      · repeat (first | (with_reducible exact B4.out) | (with_reducible refine blk_drewN ?_ _) | (with_reducible refine blk_drew ?_) | (with_reducible refine blk_set8 (cs := #[.int .i64 0, .int .i64 0, .string ⟨#[]⟩, .string ⟨#[]⟩, .bool false, .bool false, .slice none 0 0, .slice none 0 0]) ?_ rfl _ _ _ _ _ _ _ _) | (with_reducible refine blk_far' ?_ hne4.symm _) | (with_reducible refine blk_far' ?_ hne48 _))
      · exact ⟨_, _, rfl, (Kd.R_lower (show Kd.R k78 78 _ (w.heap.size + 1 + 1 + 1) (fun _ => True) _ _ from by repeat (first | (with_reducible exact R6.out) | (with_reducible refine Kd.R_drewN ?_ _) | (with_reducible apply Kd.R_drew) | (with_reducible refine R_farB ?_ hB4 _) | (with_reducible refine R_farB ?_ hB8 _) | (with_reducible refine R_farB ?_ hBg _))) hle9), Kd.R_nil _ _ _ _ _, ((show Stp w0 w g 98 ((stC (some ad) c l i1 n1).setIfInBounds 1 (.int .i64 (i1 + 1))) _ from by repeat (first | (with_reducible exact HS2.out) | (with_reducible apply Stp.drew) | (with_reducible refine Stp.drewN ?_ _) | (with_reducible refine Stp.set ?_ 1 _) | (with_reducible refine Stp.far' ?_ (Nat.le_refl _) hne4 _) | (with_reducible refine Stp.far' ?_ hle8 hne8 _))).cast rfl)⟩
    case pos =>
      rw [if_pos h7] at H
      have h7' : ((rd_T140 l i1).f0 == 7) = true := beq_iff_eq.mpr h7
      clear h7
      obtain ⟨⟨rb2, p2, p3, i2, n2⟩, hl2, H⟩ := Option.bind_eq_some_iff.1 H.out
      replace H := Aside0.mk H
      replace hl2 := Aside0.mk hl2
      go_wp2
      go_quiet (fail)
      rename_i nq
      go_wp2_with fail
      have HS3 := ((show Stp w0 w g 98 ((stC (some ad) c l i1 n1).setIfInBounds 1 (.int .i64 (i1 + 1))) ((((w2.setCell ⟨w.heap.size + 1 + 1, 6, none⟩ (.slice A6 rb.length c6)).drewN nq).setCell ⟨g, 1, none⟩ (.int .i64 (i1 + 1))).setCell ⟨w.heap.size + 1 + 1, 5, none⟩ (.bool true)) from by repeat (first | (with_reducible exact HS2.out) | (with_reducible apply Stp.drew) | (with_reducible refine Stp.drewN ?_ _) | (with_reducible refine Stp.set ?_ 1 _) | (with_reducible refine Stp.far' ?_ (Nat.le_refl _) hne4 _) | (with_reducible refine Stp.far' ?_ hle8 hne8 _))).cast (cs' := stC (some ad) c l (i1 + 1) n1) rfl)
      refine (HL.out k (by omega) g _ c l (i1 + 1) n1 t.f0 true (dp + 1) rb2 p2 p3 i2 n2 w0 _ HS3.again HR.out hc hl2.out).mono ?_
      rintro e w3 ⟨v7, rfl, R7, S3⟩
      replace B4 := S3.other (k := w.heap.size) (o := .cells #[.int .i64 0, .int .i64 0, .string ⟨#[]⟩, .string ⟨#[]⟩, .bool false, .bool false, .slice none 0 0, .slice none 0 0] 78) (blk_far' (blk_far' (blk_drewN (blk_far' B4.out hne48 _) nq) hne4.symm _) hne48 _) hne4.symm
      replace B7 := S3.other (k := w.heap.size + 1) (o := .cells #[.int .i64 t.f0, .int .i64 t.f1, .string t.f2, .string t.f3, .bool t.f4] 140) (blk_far' (blk_far' (blk_drewN (blk_far' B7.out (by omega) _) nq) hne7.symm _) (by omega) _) hne7.symm
      replace B8 := S3.other (k := w.heap.size + 1 + 1) (o := .cells #[.int .i64 t.f0, .int .i64 t.f1, .string t.f2, .string t.f3, .bool t.f4, .bool true, .slice A6 rb.length c6, .slice none 0 0] 78) (blk_set (blk_far' (blk_drewN (blk_set B8.out 6 _) nq) hne8.symm _) 5 _) hne8.symm
      replace R7 := Kd.R_lower (base' := w.heap.size + 1 + 1 + 1) R7 (by simp; omega)
      replace R6 := Aside0.mk (R_keepBut (show Kd.R k78 78 _ (w.heap.size + 1 + 1 + 1) (fun _ => True) _ _ from R_farB (R_farB (Kd.R_drewN (R_farB R6.out hB8 _) nq) hBg _) hB8 _) S3.keep hBg)
      have HS4 := HS3.call S3
      clear HS3 S3 HS2 hb0 hb1 hf1 y0 y1 c40 z40 c80 c41 z41 c81 c42 z42 c82 c43 z43 c83 c44 z44 c84 c45 z45 c85 c46 z46 c86 c47 z140 c87 c70 c71 z85 z86 z87
      obtain ⟨A7, c7, rfl⟩ := Kd.R_slice R7
      replace hsz := blk_lt B8
      have c40 : w3.cell? ⟨w.heap.size, 0, none⟩ = some (.int .i64 0) := (blk_cell B4 0).trans rfl
      have c41 : w3.cell? ⟨w.heap.size, 1, none⟩ = some (.int .i64 0) := (blk_cell B4 1).trans rfl
      have c42 : w3.cell? ⟨w.heap.size, 2, none⟩ = some (.string ⟨#[]⟩) := (blk_cell B4 2).trans rfl
      have c43 : w3.cell? ⟨w.heap.size, 3, none⟩ = some (.string ⟨#[]⟩) := (blk_cell B4 3).trans rfl
      have c44 : w3.cell? ⟨w.heap.size, 4, none⟩ = some (.bool false) := (blk_cell B4 4).trans rfl
      have c45 : w3.cell? ⟨w.heap.size, 5, none⟩ = some (.bool false) := (blk_cell B4 5).trans rfl
      have c46 : w3.cell? ⟨w.heap.size, 6, none⟩ = some (.slice none 0 0) := (blk_cell B4 6).trans rfl
      have c47 : w3.cell? ⟨w.heap.size, 7, none⟩ = some (.slice none 0 0) := (blk_cell B4 7).trans rfl
      have z40 := blk_frozen B4 0
      have z41 := blk_frozen B4 1
      have z42 := blk_frozen B4 2
      have z43 := blk_frozen B4 3
      have z44 := blk_frozen B4 4
      have z45 := blk_frozen B4 5
      have z46 := blk_frozen B4 6
      have z140 := blk_frozen B4 7
      have c70 : w3.cell? ⟨w.heap.size + 1, 0, none⟩ = some (.int .i64 t.f0) := (blk_cell B7 0).trans rfl
      have c71 : w3.cell? ⟨w.heap.size + 1, 1, none⟩ = some (.int .i64 t.f1) := (blk_cell B7 1).trans rfl
      have c80 : w3.cell? ⟨w.heap.size + 1 + 1, 0, none⟩ = some (.int .i64 t.f0) := (blk_cell B8 0).trans rfl
      have c81 : w3.cell? ⟨w.heap.size + 1 + 1, 1, none⟩ = some (.int .i64 t.f1) := (blk_cell B8 1).trans rfl
      have c82 : w3.cell? ⟨w.heap.size + 1 + 1, 2, none⟩ = some (.string t.f2) := (blk_cell B8 2).trans rfl
      have c83 : w3.cell? ⟨w.heap.size + 1 + 1, 3, none⟩ = some (.string t.f3) := (blk_cell B8 3).trans rfl
      have c84 : w3.cell? ⟨w.heap.size + 1 + 1, 4, none⟩ = some (.bool t.f4) := (blk_cell B8 4).trans rfl
      have c85 : w3.cell? ⟨w.heap.size + 1 + 1, 5, none⟩ = some (.bool true) := (blk_cell B8 5).trans rfl
      have c86 : w3.cell? ⟨w.heap.size + 1 + 1, 6, none⟩ = some (.slice A6 rb.length c6) := (blk_cell B8 6).trans rfl
      have c87 : w3.cell? ⟨w.heap.size + 1 + 1, 7, none⟩ = some (.slice none 0 0) := (blk_cell B8 7).trans rfl
      have z85 := blk_frozen B8 5
      have z86 := blk_frozen B8 6
      have z87 := blk_frozen B8 7
      replace B4 := Aside0.mk B4
      replace B7 := Aside0.mk B7
      replace B8 := Aside0.mk B8
      replace R7 := Aside0.mk R7
      have hb0 : w3.cell? ⟨g, 0, none⟩ = some (.slice (some ad) l.length c) := (HS4.cell 0).trans rfl
      have hb1 : w3.cell? ⟨g, 1, none⟩ = some (.int .i64 i2) := (HS4.cell 1).trans rfl
      have hf1 := HS4.frozen 1
      replace HS4 := Aside0.mk HS4
      by_cases h5 : p3 = 0
      case neg =>
        have H2 := H.out; clear H
        rw [if_neg h5] at H2
        have h5' : (p3 != 0) = true := by simp [h5]
        clear h5
        simp only [Option.some.injEq, Prod.mk.injEq] at H2
        obtain ⟨rfl, rfl, rfl, rfl, rfl⟩ := H2
        go_wp2
        refine bodyPost_ret (results_ctt rfl _ _ w.heap.size 78 #[.int .i64 0, .int .i64 0, .string ⟨#[]⟩, .string ⟨#[]⟩, .bool false, .bool false, .slice none 0 0, .slice none 0 0] (0, 0) _ rfl ?_ Tryd.underlying78 rfl (by kernel_rfl)) rfl ?_
        · repeat (first | (with_reducible exact B4.out) | (with_reducible refine blk_drewN ?_ _) | (with_reducible refine blk_drew ?_) | (with_reducible refine blk_set8 (cs := #[.int .i64 0, .int .i64 0, .string ⟨#[]⟩, .string ⟨#[]⟩, .bool false, .bool false, .slice none 0 0, .slice none 0 0]) ?_ rfl _ _ _ _ _ _ _ _) | (with_reducible refine blk_far' ?_ hne4.symm _) | (with_reducible refine blk_far' ?_ hne48 _))
        · exact ⟨_, _, rfl, Kd.R_nil _ _ _ _ _, Kd.R_nil _ _ _ _ _, (by repeat (first | (with_reducible exact HS4.out) | (with_reducible apply Stp.drew) | (with_reducible refine Stp.drewN ?_ _) | (with_reducible refine Stp.far' ?_ (Nat.le_refl _) hne4 _) | (with_reducible refine Stp.far' ?_ hle8 hne8 _)))⟩
      rw [if_pos h5] at H
      have h5' : (p3 != 0) = false := by simp [h5]
      clear h5
      by_cases hge : i2 ≥ (l.length : Int)
      case pos =>
        have H2 := H.out; clear H
        rw [if_pos hge] at H2
        simp only [Option.some.injEq, Prod.mk.injEq] at H2
        obtain ⟨rfl, rfl, rfl, rfl, rfl⟩ := H2
        have hge' : (l.length : Int) ≤ i2 := hge
        clear hge
        go_wp2
        go_quiet (fail)
        go_wp2
        go_region
        go_wp2
        refine bodyPost_ret (results_ctt rfl _ _ w.heap.size 78 #[.int .i64 0, .int .i64 0, .string ⟨#[]⟩, .string ⟨#[]⟩, .bool false, .bool false, .slice none 0 0, .slice none 0 0] (0, 0) _ rfl ?_ Tryd.underlying78 rfl (by kernel_rfl)) rfl ?_
        · repeat (first | (with_reducible exact B4.out) | (with_reducible refine blk_drewN ?_ _) | (with_reducible refine blk_drew ?_) | (with_reducible refine blk_set8 (cs := #[.int .i64 0, .int .i64 0, .string ⟨#[]⟩, .string ⟨#[]⟩, .bool false, .bool false, .slice none 0 0, .slice none 0 0]) ?_ rfl _ _ _ _ _ _ _ _) | (with_reducible refine blk_far' ?_ hne4.symm _) | (with_reducible refine blk_far' ?_ hne48 _))
        · exact ⟨_, _, rfl, Kd.R_nil _ _ _ _ _, Kd.R_nil _ _ _ _ _, (by repeat (first | (with_reducible exact HS4.out) | (with_reducible apply Stp.drew) | (with_reducible refine Stp.drewN ?_ _) | (with_reducible refine Stp.far' ?_ (Nat.le_refl _) hne4 _) | (with_reducible refine Stp.far' ?_ hle8 hne8 _)))⟩
      rw [if_neg hge] at H
      by_cases hi2 : 0 ≤ i2 ∧ i2 ≤ 100000
      case neg => have H2 := H.out; rw [if_neg hi2] at H2; cases H2
      have H2 := H.out; clear H
      rw [if_pos hi2] at H2
      simp only [Option.some.injEq, Prod.mk.injEq] at H2
      obtain ⟨rfl, rfl, rfl, rfl, rfl⟩ := H2
      obtain ⟨hi20, hi21⟩ := hi2
      have hge' : i2 < (l.length : Int) := by omega
      clear hge
      go_wp2
      go_quiet (fail)
      go_wp2
      refine bodyPost_ret (results_ctt rfl _ _ w.heap.size 78 #[.int .i64 t.f0, .int .i64 t.f1, .string t.f2, .string t.f3, .bool t.f4, .bool true, .slice A6 rb.length c6, .slice A7 rb2.length c7] (0, 0) _ rfl ?_ Tryd.underlying78 rfl (by kernel_rfl)) rfl ?_
      · repeat (first | (with_reducible exact B4.out) | (with_reducible refine blk_drewN ?_ _) | (with_reducible refine blk_drew ?_) | (with_reducible refine blk_set8 (cs := #[.int .i64 0, .int .i64 0, .string ⟨#[]⟩, .string ⟨#[]⟩, .bool false, .bool false, .slice none 0 0, .slice none 0 0]) ?_ rfl _ _ _ _ _ _ _ _) | (with_reducible refine blk_far' ?_ hne4.symm _) | (with_reducible refine blk_far' ?_ hne48 _))
      · exact ⟨_, _, rfl, (Kd.R_lower (show Kd.R k78 78 _ (w.heap.size + 1 + 1 + 1) (fun _ => True) _ _ from by repeat (first | (with_reducible exact R6.out) | (with_reducible refine Kd.R_drewN ?_ _) | (with_reducible apply Kd.R_drew) | (with_reducible refine R_farB ?_ hB4 _) | (with_reducible refine R_farB ?_ hB8 _) | (with_reducible refine R_farB ?_ hBg _))) hle9), (Kd.R_lower (show Kd.R k78 78 _ (w.heap.size + 1 + 1 + 1) (fun _ => True) _ _ from by repeat (first | (with_reducible exact R7.out) | (with_reducible refine Kd.R_drewN ?_ _) | (with_reducible apply Kd.R_drew) | (with_reducible refine R_farB ?_ hB4 _) | (with_reducible refine R_farB ?_ hB8 _) | (with_reducible refine R_farB ?_ hBg _))) hle9), ((show Stp w0 w g 98 ((stC (some ad) c l i2 n2).setIfInBounds 1 (.int .i64 (i2 + 1))) _ from by repeat (first | (with_reducible exact HS4.out) | (with_reducible apply Stp.drew) | (with_reducible refine Stp.drewN ?_ _) | (with_reducible refine Stp.set ?_ 1 _) | (with_reducible refine Stp.far' ?_ (Nat.le_refl _) hne4 _) | (with_reducible refine Stp.far' ?_ hle8 hne8 _))).cast rfl)⟩
end Go.Proofs.YtkpnfejfbmandaaDoor.Px
namespace Go.Proofs.YtkpnfejfbmandaaDoor.Px
open Go.RowKit Go.Proofs.YtkpnfejfbmandaaDoorW.PrintWords Go.Proofs.YtkpnfejfbmandaaDoorW.PrintLast Go.Proofs.YtkpnfejfbmandaaDoorW.PrintMore
attribute [local go_sem] max2_int min2_int max_two min_two max_three min_three max_four min_four   -- for this text's walks alone
set_option linter.unusedVariables false
set_option linter.unusedSimpArgs false
mutual
def tmplpiperef11_words.l0 : Nat → ByteArray → List ByteArray → Int → Int → Option (List ByteArray)
  | 0, _, _, _, _ => none
  | k + 1, x0, x3, x4, x5 => if x5 ≤ (x0.size : Int) then (if x5 = (x0.size : Int) then (tmplpiperef11_words.j1 k x0 x3 x4 x5 true) else (if 0 ≤ x5 then (if x5 < (x0.size : Int) then (tmplpiperef11_words.j1 k x0 x3 x4 x5 ((bt x0 x5) == 32)) else (none)) else (none))) else (some x3)
def tmplpiperef11_words.j1 : Nat → ByteArray → List ByteArray → Int → Int → Bool → Option (List ByteArray)
  | 0, _, _, _, _, _ => none
  | k + 1, x0, x3, x4, x5, x21 => if x21 = true then (if x5 > x4 then (if 0 ≤ x4 then (if x4 ≤ x5 then (if x5 ≤ (x0.size : Int) then (if x3.length < 8796093022208 then (tmplpiperef11_words.l0 k x0 (x3 ++ [x0.extract (x4 : Int).toNat (x5 : Int).toNat]) (wrap64 (x5 + 1)) (wrap64 (x5 + 1))) else (none)) else (none)) else (none)) else (none)) else (tmplpiperef11_words.l0 k x0 x3 (wrap64 (x5 + 1)) (wrap64 (x5 + 1)))) else (tmplpiperef11_words.l0 k x0 x3 x4 (wrap64 (x5 + 1)))
end
def tmplpiperef11_words.f (k : Nat) (a0 : ByteArray) : Option (List ByteArray) := tmplpiperef11_words.l0 k a0 ([] : List ByteArray) 0 0
theorem tmplpiperef11_words.mono_l : ∀ k, (∀ y0 y1 y2 y3, LeO (tmplpiperef11_words.l0 k y0 y1 y2 y3) (tmplpiperef11_words.l0 (k + 1) y0 y1 y2 y3)) ∧ (∀ y0 y1 y2 y3 y4, LeO (tmplpiperef11_words.j1 k y0 y1 y2 y3 y4) (tmplpiperef11_words.j1 (k + 1) y0 y1 y2 y3 y4))
  | 0 => ⟨fun _ _ _ _ r h => by simp [tmplpiperef11_words.l0] at h, fun _ _ _ _ _ r h => by simp [tmplpiperef11_words.j1] at h⟩
  | k + 1 => by
    obtain ⟨ih0, ih1⟩ := tmplpiperef11_words.mono_l k
    refine ⟨?_, ?_⟩
    · intro y0 y1 y2 y3
      unfold tmplpiperef11_words.l0
      repeat' first
      | (with_reducible exact ih0 _ _ _ _)
      | (with_reducible exact ih1 _ _ _ _ _)
      | (with_reducible exact LeO.refl _)
      | (with_reducible exact LeO.none _)
      | (with_reducible refine LeO.ite ?_ ?_)
      | (with_reducible refine LeO.bind ?_ (fun _ => ?_))
      | exact ih0 _ _ _ _
      | exact ih1 _ _ _ _ _
      | exact LeO.none _
      | refine LeO.ite ?_ ?_
      | refine LeO.bind ?_ (fun _ => ?_)
    · intro y0 y1 y2 y3 y4
      unfold tmplpiperef11_words.j1
      repeat' first
      | (with_reducible exact ih0 _ _ _ _)
      | (with_reducible exact ih1 _ _ _ _ _)
      | (with_reducible exact LeO.refl _)
      | (with_reducible exact LeO.none _)
      | (with_reducible refine LeO.ite ?_ ?_)
      | (with_reducible refine LeO.bind ?_ (fun _ => ?_))
      | exact ih0 _ _ _ _
      | exact ih1 _ _ _ _ _
      | exact LeO.none _
      | refine LeO.ite ?_ ?_
      | refine LeO.bind ?_ (fun _ => ?_)
theorem tmplpiperef11_words.mono : ∀ a0 k, LeO (tmplpiperef11_words.f k a0) (tmplpiperef11_words.f (k + 1) a0) := by
  intro a0 k
  obtain ⟨ih0, ih1⟩ := tmplpiperef11_words.mono_l k
  unfold tmplpiperef11_words.f
  repeat' first
      | (with_reducible exact ih0 _ _ _ _)
      | (with_reducible exact ih1 _ _ _ _ _)
      | (with_reducible exact LeO.refl _)
      | (with_reducible exact LeO.none _)
      | (with_reducible refine LeO.ite ?_ ?_)
      | (with_reducible refine LeO.bind ?_ (fun _ => ?_))
      | exact ih0 _ _ _ _
      | exact ih1 _ _ _ _ _
      | exact LeO.none _
      | refine LeO.ite ?_ ?_
      | refine LeO.bind ?_ (fun _ => ?_)
set_option maxHeartbeats 8000000 in
set_option maxRecDepth 100000 in
theorem tmplpiperef11_words.calls (k : Nat) (a0 : ByteArray) (r : List ByteArray) (w : World) (h : tmplpiperef11_words.f k a0 = some r) :
    Calls Tryd.prog 67 #[.string a0] w fun e w' => ∃ v0_ : Value, e = .returned (v0_) ∧ Kd.R Kd.string 9 w' w.heap.size (fun _ => True) v0_ r ∧ Below w.heap.size w w' := by
  have HB := Aside0.mk (Below.refl w.heap.size w)
  have H : (tmplpiperef11_words.l0 k a0 ([] : List ByteArray) 0 0) = some r := h
  clear h
  have H' := Aside0.mk H
  clear H
  go_enter Tryd.func67, Tryd.ntmps67
  go_wp2
  go_loopg [3, 4, 5] k (fun kq v3 v4 v5 w' => ∃ (x3_1 : List ByteArray) (x4_1 : Int) (x5_1 : Int), v4 = .int .i64 x4_1 ∧ v5 = .int .i64 x5_1 ∧ Aside0 (tmplpiperef11_words.l0 kq a0 x3_1 x4_1 x5_1 = some r) ∧ Aside0 (kq ≤ k) ∧ Aside0 (Kd.R Kd.string 9 w' w.heap.size (fun _ => True) v3 x3_1) ∧ Aside0 (Below w.heap.size w w'))
  case atStart => exact ⟨(([] : List ByteArray)), (0), (0), (by first | rfl | (simp; done) | (simp [*]; done)), (by first | rfl | (simp; done) | (simp [*]; done)), H', ⟨Nat.le_refl _⟩, ⟨by first | exact Kd.R_nil _ _ _ _ _ | exact Kd.N_nil _ _ _ _ _ | exact Kd.V_nil _ _ _ _ _ | exact Kd.Q_nil _ _ _ _ _ | exact Kd.S_nil _ _ _ _ _⟩, ⟨by repeat (first | (with_reducible first | exact HB.out | apply below_alloc | apply pw_below_drewN | apply below_drew1) | exact HB.out)⟩⟩
  case round =>
    clear H'
    obtain ⟨x3_1, x4_1, x5_1, rfl, rfl, HA, HK1, HO_3, HB⟩ := hrel
    cases gk with
    | zero => exact absurd HA.out (by simp [tmplpiperef11_words.l0])
    | succ k1 =>
      have H := HA.out
      clear HA
      simp only [tmplpiperef11_words.l0] at H
      by_cases c2 : x5_1 ≤ (a0.size : Int)
      · rw [if_pos c2] at H
        have c2b0 : decide (x5_1 ≤ (a0.size : Int)) = true := decide_eq_true c2
        clear c2
        have HC3 := Aside0.mk H
        clear H
        go_upto_region 6 with (fail)
        go_cut [21] (fun v21 wc => ∃ (kq : Nat) (x21_2 : Bool), v21 = .bool x21_2 ∧ Aside0 (tmplpiperef11_words.j1 kq a0 x3_1 x4_1 x5_1 x21_2 = some r) ∧ Aside0 (kq ≤ k1) ∧ Aside0 (Kd.R Kd.string 9 wc w.heap.size (fun _ => True) u3 x3_1) ∧ Aside0 (Below w.heap.size w wc))
        case first =>
          have H := HC3.out
          clear HC3
          by_cases c4 : x5_1 = (a0.size : Int)
          · rw [if_pos c4] at H
            have c4b0 : (x5_1 == (a0.size : Int)) = true := beq_iff_eq.mpr c4
            have c4b1 : (x5_1 != (a0.size : Int)) = false := bne_eq_false_iff_eq.mpr c4
            clear c4
            (first | rw [c4b0] | (simp only [i64_w, i32_w]; rw [c4b0]) | skip)
            have H' := Aside0.mk H
            clear H
            go_wp2
            go_meet
            case rel => exact ⟨_, (true), (by first | rfl | (simp; done) | (simp [*]; done)), H', ⟨by have := HK1.out; first | omega | exact Nat.le_refl _⟩, ⟨by (with_reducible repeat (first | apply Kd.R_alloc | apply Kd.R_drewN | apply Kd.R_drew)); exact HO_3.out⟩, ⟨by repeat (first | (with_reducible first | exact HB.out | apply below_alloc | apply pw_below_drewN | apply below_drew1) | exact HB.out)⟩⟩
          · rw [if_neg c4] at H
            have c4b0 : (x5_1 == (a0.size : Int)) = false := beq_eq_false_iff_ne.mpr c4
            have c4b1 : (x5_1 != (a0.size : Int)) = true := bne_iff_ne.mpr c4
            (first | rw [c4b0] | (simp only [i64_w, i32_w]; rw [c4b0]) | skip)
            by_cases c5 : 0 ≤ x5_1
            · rw [if_pos c5] at H
              have c5b0 : decide (0 ≤ x5_1) = true := decide_eq_true c5
              clear c5
              by_cases c6 : x5_1 < (a0.size : Int)
              · rw [if_pos c6] at H
                have c6b0 : decide (x5_1 < (a0.size : Int)) = true := decide_eq_true c6
                clear c6
                have H' := Aside0.mk H
                clear H
                have p7 : 0 ≤ (x5_1 : Int) := of_decide_eq_true (by first | (with_reducible assumption) | assumption)
                have q7 : x5_1 < (a0.size : Int) := of_decide_eq_true (by first | (with_reducible assumption) | assumption)
                have hx7 := bt_at a0 x5_1
                replace p7 := eq_true p7
                replace q7 := eq_true q7
                go_wp2
                go_meet
                case rel => exact ⟨_, (((bt a0 x5_1) == 32)), (by first | rfl | (simp; done) | (simp [*]; done)), H', ⟨by have := HK1.out; first | omega | exact Nat.le_refl _⟩, ⟨by (with_reducible repeat (first | apply Kd.R_alloc | apply Kd.R_drewN | apply Kd.R_drew)); exact HO_3.out⟩, ⟨by repeat (first | (with_reducible first | exact HB.out | apply below_alloc | apply pw_below_drewN | apply below_drew1) | exact HB.out)⟩⟩
              · rw [if_neg c6] at H
                exact absurd H (by simp)
            · rw [if_neg c5] at H
              exact absurd H (by simp)
        case rest =>
          clear HC3
          try clear c2
          try clear c2b0
          try clear p2
          try clear c4
          try clear c4b0
          try clear c4b1
          try clear c5
          try clear c5b0
          try clear c6
          try clear c6b0
          try clear p7
          try clear q7
          try clear hx7
          try clear p7
          try clear q7
          obtain ⟨kq, x21_2, rfl, HA, HJ2, HO_3, HB⟩ := hcut
          cases kq with
          | zero => exact absurd HA.out (by simp [tmplpiperef11_words.j1])
          | succ kj2 =>
            have H := HA.out
            clear HA
            simp only [tmplpiperef11_words.j1] at H
            by_cases c8 : x21_2 = true
            · subst c8
              have H1 : (if x5_1 > x4_1 then (if 0 ≤ x4_1 then (if x4_1 ≤ x5_1 then (if x5_1 ≤ (a0.size : Int) then (if x3_1.length < 8796093022208 then (tmplpiperef11_words.l0 kj2 a0 (x3_1 ++ [a0.extract (x4_1 : Int).toNat (x5_1 : Int).toNat]) (wrap64 (x5_1 + 1)) (wrap64 (x5_1 + 1))) else (none)) else (none)) else (none)) else (none)) else (tmplpiperef11_words.l0 kj2 a0 x3_1 (wrap64 (x5_1 + 1)) (wrap64 (x5_1 + 1)))) = some r := by rw [if_pos rfl] at H; exact H
              clear H
              have H := H1
              clear H1
              by_cases c9 : x5_1 > x4_1
              · rw [if_pos c9] at H
                have c9b0 : decide (x4_1 < x5_1) = true := decide_eq_true c9
                clear c9
                by_cases c10 : 0 ≤ x4_1
                · rw [if_pos c10] at H
                  have c10b0 := eq_true c10
                  have c10b1 : decide (0 ≤ x4_1) = true := decide_eq_true c10
                  clear c10
                  by_cases c11 : x4_1 ≤ x5_1
                  · rw [if_pos c11] at H
                    have c11b0 := eq_true c11
                    have c11b1 : decide (x4_1 ≤ x5_1) = true := decide_eq_true c11
                    clear c11
                    by_cases c12 : x5_1 ≤ (a0.size : Int)
                    · rw [if_pos c12] at H
                      have c12b0 := eq_true c12
                      have c12b1 : decide (x5_1 ≤ (a0.size : Int)) = true := decide_eq_true c12
                      clear c12
                      by_cases c13 : x3_1.length < 8796093022208
                      · rw [if_pos c13] at H
                        have LMc13 := Aside0.mk c13
                        clear c13
                        obtain ⟨y283, hy283⟩ : ∃ y_ : List ByteArray, y_ = (x3_1 ++ [a0.extract (x4_1 : Int).toNat (x5_1 : Int).toNat]) := ⟨_, rfl⟩
                        replace H : (tmplpiperef11_words.l0 kj2 a0 y283 (wrap64 (x5_1 + 1)) (wrap64 (x5_1 + 1))) = some r := by first | (rw [hy283]; with_reducible exact H) | (have H2_ := (Option.bind_some _ _).symm.trans H; rw [hy283]; with_reducible exact H2_) | (have H2_ := (Option.bind_some _ _).symm.trans H; with_reducible exact H2_) | with_reducible exact H | (rw [hy283]; exact H) | exact H
                        have Ny283 := Aside0.mk hy283
                        clear hy283
                        have H' := Aside0.mk H
                        clear H
                        go_wp2_with (first | ((with_reducible refine gate_builtin (b := .append) (xs := #[.tmp 25, .tmp 30]) rfl ?_); at_builtin; refine Kd.R_append Kd.string (w0 := w) w.heap.size rfl (.tmp 25) (.tmp 30) 114 9 (.string ⟨#[]⟩) 16 rfl Tryd.underlying114 info9 rfl (by decide) (by omega) u3 x3_1 (a0.extract (x4_1 : Int).toNat (x5_1 : Int).toNat) [.string (a0.extract (x4_1 : Int).toNat (x5_1 : Int).toNat)] (fun _ => True) (fun _ => False) rfl rfl ?aP (fun _ hk => hk.elim) ?aF ?aO ?aB ?aS ?aL ?_; (case aP => exact rfl); (case aB => exact (by repeat (first | (with_reducible first | exact HB.out | apply below_alloc | apply pw_below_drewN | apply below_drew1) | exact HB.out))); (case aF => exact (fun _ _ => trivial)); (case aO => exact (by (with_reducible repeat (first | apply Kd.R_alloc | apply Kd.R_drewN | apply Kd.R_drew)); exact HO_3.out)); (case aS => exact (below_size (by repeat (first | (with_reducible first | exact HB.out | apply below_alloc | apply pw_below_drewN | apply below_drew1) | exact HB.out)))); (case aL => have := LMc13.out; omega); intro v284 w14 ho hb hg hat; rw [← Ny283.out] at ho; have n0_ := Aside0.mk (hb); have n1_ := Aside0.mk (ho); clear HB; clear HO_3; have HB := n0_; have HO285 := n1_; clear n0_ n1_; clear ho hb hg hat))
                        go_roundg kj2
                        case measure => have := HK1.out; have := HJ2.out; omega
                        case rel => exact ⟨(y283), (wrap64 (x5_1 + 1)), (wrap64 (x5_1 + 1)), (by first | rfl | (simp; done) | (simp [*]; done)), (by first | rfl | (simp; done) | (simp [*]; done)), H', ⟨by have := HK1.out; have := HJ2.out; omega⟩, ⟨by (with_reducible repeat (first | apply Kd.R_alloc | apply Kd.R_drewN | apply Kd.R_drew)); exact HO285.out⟩, ⟨by repeat (first | (with_reducible first | exact HB.out | apply below_alloc | apply pw_below_drewN | apply below_drew1) | exact HB.out)⟩⟩
                      · rw [if_neg c13] at H
                        exact absurd H (by simp)
                    · rw [if_neg c12] at H
                      exact absurd H (by simp)
                  · rw [if_neg c11] at H
                    exact absurd H (by simp)
                · rw [if_neg c10] at H
                  exact absurd H (by simp)
              · rw [if_neg c9] at H
                have c9b0 : decide (x4_1 < x5_1) = false := decide_eq_false c9
                clear c9
                have H' := Aside0.mk H
                clear H
                go_wp2
                go_roundg kj2
                case measure => have := HK1.out; have := HJ2.out; omega
                case rel => exact ⟨(x3_1), (wrap64 (x5_1 + 1)), (wrap64 (x5_1 + 1)), (by first | rfl | (simp; done) | (simp [*]; done)), (by first | rfl | (simp; done) | (simp [*]; done)), H', ⟨by have := HK1.out; have := HJ2.out; omega⟩, ⟨by (with_reducible repeat (first | apply Kd.R_alloc | apply Kd.R_drewN | apply Kd.R_drew)); exact HO_3.out⟩, ⟨by repeat (first | (with_reducible first | exact HB.out | apply below_alloc | apply pw_below_drewN | apply below_drew1) | exact HB.out)⟩⟩
            · replace c8 := Bool.eq_false_iff.mpr c8
              subst c8
              have H1 : (tmplpiperef11_words.l0 kj2 a0 x3_1 x4_1 (wrap64 (x5_1 + 1))) = some r := by rw [if_neg (show ¬ (false = true) by decide)] at H; exact H
              clear H
              have H := H1
              clear H1
              have H' := Aside0.mk H
              clear H
              go_wp2
              go_roundg kj2
              case measure => have := HK1.out; have := HJ2.out; omega
              case rel => exact ⟨(x3_1), (x4_1), (wrap64 (x5_1 + 1)), (by first | rfl | (simp; done) | (simp [*]; done)), (by first | rfl | (simp; done) | (simp [*]; done)), H', ⟨by have := HK1.out; have := HJ2.out; omega⟩, ⟨by (with_reducible repeat (first | apply Kd.R_alloc | apply Kd.R_drewN | apply Kd.R_drew)); exact HO_3.out⟩, ⟨by repeat (first | (with_reducible first | exact HB.out | apply below_alloc | apply pw_below_drewN | apply below_drew1) | exact HB.out)⟩⟩
      · rw [if_neg c2] at H
        have c2b0 : decide (x5_1 ≤ (a0.size : Int)) = false := decide_eq_false c2
        clear c2
        obtain rfl := Option.some.inj H
        go_wp2
        go_ret
        exact ⟨_, by first | rfl | (simp [errW_none, errW_some] <;> rfl) | (simp [*, errW_none, errW_some] <;> rfl), by (with_reducible repeat (first | apply Kd.R_alloc | apply Kd.R_drewN | apply Kd.R_drew)); exact HO_3.out, by repeat (first | (with_reducible first | exact HB.out | apply below_alloc | apply pw_below_drewN | apply below_drew1) | exact HB.out)⟩
end Go.Proofs.YtkpnfejfbmandaaDoor.Px
