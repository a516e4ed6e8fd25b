import Derived.Test.YtgdpojleejdfaaaDoorRTRp
/- Contract of the reference parser's node: written by hand. -/
namespace Go.Proofs.YtgdpojleejdfaaaDoor.Px
open Go.RowKit Go.Proofs.YtgdpojleejdfaaaDoorW.PrintWords Go.Proofs.YtgdpojleejdfaaaDoorW.PrintLast Go.Proofs.YtgdpojleejdfaaaDoorW.PrintMore
set_option linter.unusedVariables false
set_option linter.unusedSimpArgs false
@[irreducible] def blkB (a : Int) : Bool := a == 2 || a == 3 || a == 6
theorem blkB_iff (a : Int) : blkB a = true ↔ (a = 2 ∨ a = 3 ∨ a = 6) := by unfold blkB; simp [or_assoc]
theorem block_any (a : Int) (w : World) : Calls Tryd.prog 53 #[.int .i64 a] w fun e w' => e = .returned (.bool (blkB a)) ∧ w = w' := by
  unfold blkB
  by_cases h2 : (a == 2) = true
  · go_enter Tryd.func53, Tryd.ntmps53
    go_wp2
    go_ret
    exact ⟨by simp [h2], rfl⟩
  · have h2' : (a == 2) = false := by simpa using h2
    by_cases h3 : (a == 3) = true
    · go_enter Tryd.func53, Tryd.ntmps53
      go_wp2
      go_ret
      exact ⟨by simp [h2, h3], rfl⟩
    · have h3' : (a == 3) = false := by simpa using h3
      go_enter Tryd.func53, Tryd.ntmps53
      go_wp2
      go_ret
      exact ⟨by simp [h2', h3'], rfl⟩
set_option maxHeartbeats 4000000 in
set_option maxRecDepth 100000 in
theorem rnode.step (k : Nat) (ihl : ∀ m, m < k → rlist.Con m) : rnode.Con k := by
  intro g A c l i n dp x r2 r3 i' n' w0 w hS hr hc h
  have hgw : g < w.heap.size := hS.lt
  cases k with
  | zero => exact absurd h (by simp [rnode])
  | succ k =>
  have HL := Aside0.mk ihl; clear ihl
  simp only [rnode] at h
  by_cases hi : 0 ≤ i ∧ i < (l.length : Int) ∧ i ≤ 100000 ∧ 0 ≤ n ∧ 0 ≤ dp
  case neg => rw [if_neg hi] at h; cases h
  rw [if_pos hi] at h
  have H := Aside0.mk h; clear h
  obtain ⟨hi0, hil, hi1, hn0, hdp⟩ := hi
  obtain ⟨ad, rfl, x0, x1, x2, x3, x4⟩ := at_T47 hr i hi0 hil
  have HR := Aside0.mk hr; clear hr
  have hb0 : w.cell? ⟨g, 0, none⟩ = some (.slice (some ad) l.length c) := (hS.cell 0).trans rfl
  have hb1 : w.cell? ⟨g, 1, none⟩ = some (.int .i64 i) := (hS.cell 1).trans rfl
  have hb2 : w.cell? ⟨g, 2, none⟩ = some (.int .i64 n) := (hS.cell 2).trans rfl
  have hf1 := hS.frozen 1
  have hf2 := hS.frozen 2
  replace x0 := hS.old x0
  replace x1 := hS.old x1
  replace x2 := hS.old x2
  replace x3 := hS.old x3
  replace x4 := hS.old x4
  have hads := World.block_lt_of_cell? _ _ x1
  replace HS := Aside0.mk hS; clear hS
  generalize hT : rd_T47 l i = t at *
  replace hT := Aside0.mk hT
  by_cases h6 : t.f0 = 6 ∧ dp > 0
  · have H2 := H.out; clear H
    rw [if_pos h6] at H2
    simp only [Option.some.injEq, Prod.mk.injEq] at H2
    obtain ⟨rfl, rfl, rfl, rfl, rfl⟩ := H2
    have h6' : (t.f0 == 6) = true := beq_iff_eq.mpr h6.1
    have hd' := h6.2
    clear h6
    go_enter Tryd.func68, Tryd.ntmps68
    go_wp2
    go_region
    go_wp2
    go_region
    go_wp2
    refine bodyPost_ret (results_ctt rfl _ _ w.heap.size 39 #[.int .i64 0, .int .i64 0, .string ⟨#[]⟩, .string ⟨#[]⟩, .bool false, .bool false, .slice none 0 0, .slice none 0 0] (0, 0) _ rfl ?_ Tryd.underlying39 rfl (by kernel_rfl)) rfl ?_
    · repeat (first | exact blk_new _ _ | refine blk_drew ?_ | refine blk_alloc ?_ _)
    · exact ⟨_, _, rfl, Kd.R_nil _ _ _ _ _, Kd.R_nil _ _ _ _ _, (by repeat (first | exact HS.out | apply Stp.drew | refine Stp.alloc ?_ _))⟩
  rw [if_neg h6] at H
  by_cases hbd : (t.f0 = 2 ∨ t.f0 = 3 ∨ t.f0 = 6) ∧ dp ≥ 32
  · have H2 := H.out; clear H
    rw [if_pos hbd] at H2
    simp only [Option.some.injEq, Prod.mk.injEq] at H2
    obtain ⟨rfl, rfl, rfl, rfl, rfl⟩ := H2
    have hd' : 0 < dp := by omega
    have h6' : (t.f0 == 6) = false := by rw [beq_eq_false_iff_ne]; intro e; exact h6 ⟨e, hd'⟩
    have hbv : blkB t.f0 = true := (blkB_iff _).2 hbd.1
    have hd2 : 32 ≤ dp := hbd.2
    clear h6 hbd
    go_enter Tryd.func68, Tryd.ntmps68
    go_wp2
    go_region
    go_wp2_with (go_at_call 53; refine (block_any _ _).mono ?_; rintro e w' ⟨rfl, rfl⟩)
    go_region
    go_wp2
    refine bodyPost_ret (results_ctt rfl _ _ w.heap.size 39 #[.int .i64 0, .int .i64 0, .string ⟨#[]⟩, .string ⟨#[]⟩, .bool false, .bool false, .slice none 0 0, .slice none 0 0] (0, 0) _ rfl ?_ Tryd.underlying39 rfl (by kernel_rfl)) rfl ?_
    · repeat (first | exact blk_new _ _ | refine blk_drew ?_ | refine blk_alloc ?_ _)
    · exact ⟨_, _, rfl, Kd.R_nil _ _ _ _ _, Kd.R_nil _ _ _ _ _, (by repeat (first | exact HS.out | apply Stp.drew | refine Stp.alloc ?_ _))⟩
  rw [if_neg hbd] at H
  have h4 : ((t.f0 == 6) = true ∧ blkB t.f0 = true ∧ decide (0 < dp) = false ∧ dp < 32) ∨ ((t.f0 == 6) = false ∧ ((blkB t.f0 = true ∧ dp < 32) ∨ blkB t.f0 = false)) := by
    by_cases e6 : t.f0 = 6
    · have hd0 : ¬ dp > 0 := fun hd => h6 ⟨e6, hd⟩
      exact .inl ⟨beq_iff_eq.mpr e6, (blkB_iff _).2 (.inr (.inr e6)), decide_eq_false hd0, by omega⟩
    · refine .inr ⟨beq_eq_false_iff_ne.mpr e6, ?_⟩
      by_cases eb : t.f0 = 2 ∨ t.f0 = 3 ∨ t.f0 = 6
      · refine .inl ⟨(blkB_iff _).2 eb, ?_⟩
        rcases Int.lt_or_le dp 32 with h | h
        · exact h
        · exact absurd ⟨eb, h⟩ hbd
      · refine .inr ?_
        rw [← Bool.not_eq_true, blkB_iff]; exact eb
  clear h6 hbd
  by_cases hn : n ≥ 4096
  · have H2 := H.out; clear H
    rw [if_pos hn] at H2
    simp only [Option.some.injEq, Prod.mk.injEq] at H2
    obtain ⟨rfl, rfl, rfl, rfl, rfl⟩ := H2
    have hn' : 4096 ≤ n := hn
    clear hn
    rcases h4 with ⟨e6, eb, ed, ed2⟩ | ⟨e6, ⟨eb, ed2⟩ | eb⟩
    all_goals
      go_enter Tryd.func68, Tryd.ntmps68
      go_wp2
      go_region
      go_wp2_with (go_at_call 53; refine (block_any _ _).mono ?_; rintro e w' ⟨rfl, rfl⟩)
      go_region
      go_wp2
      refine bodyPost_ret (results_ctt rfl _ _ w.heap.size 39 #[.int .i64 0, .int .i64 0, .string ⟨#[]⟩, .string ⟨#[]⟩, .bool false, .bool false, .slice none 0 0, .slice none 0 0] (0, 0) _ rfl ?_ Tryd.underlying39 rfl (by kernel_rfl)) rfl ?_
      · repeat (first | exact blk_new _ _ | refine blk_drew ?_ | refine blk_alloc ?_ _)
      · exact ⟨_, _, rfl, Kd.R_nil _ _ _ _ _, Kd.R_nil _ _ _ _ _, (by repeat (first | exact HS.out | apply Stp.drew | refine Stp.alloc ?_ _))⟩
  rw [if_neg hn] at H
  replace hn : n < 4096 := by omega
  by_cases eb : (t.f0 = 2 ∨ t.f0 = 3 ∨ t.f0 = 6)
  case neg =>
    rw [if_neg eb] at H
    have H2 := H.out; clear H
    simp only [Option.some.injEq, Prod.mk.injEq] at H2
    obtain ⟨rfl, rfl, rfl, rfl, rfl⟩ := H2
    have ebv : blkB t.f0 = false := by rw [← Bool.not_eq_true, blkB_iff]; exact eb
    have e6 : (t.f0 == 6) = false := beq_eq_false_iff_ne.mpr (fun e => eb (.inr (.inr e)))
    clear h4 eb
    go_enter Tryd.func68, Tryd.ntmps68
    go_wp2
    go_region
    go_wp2_with (go_at_call 53; refine (block_any _ _).mono ?_; rintro e w' ⟨rfl, rfl⟩)
    refine bodyPost_ret (results_ctt rfl _ _ w.heap.size 39 #[.int .i64 t.f0, .int .i64 t.f1, .string t.f2, .string t.f3, .bool t.f4, .bool false, .slice none 0 0, .slice none 0 0] (0, 0) _ rfl ?_ Tryd.underlying39 rfl (by kernel_rfl)) rfl ?_
    · repeat (first | (refine blk_new' ?_; simp; done) | refine blk_drew ?_ | refine blk_alloc ?_ _)
    · exact ⟨_, _, rfl, Kd.R_nil _ _ _ _ _, Kd.R_nil _ _ _ _ _, (((((HS.out.set 2 (.int .i64 (n + 1))).set 1 (.int .i64 (i + 1))).alloc _).alloc _).alloc _).drew.cast rfl⟩
  have ebv : blkB t.f0 = true := (blkB_iff _).2 eb
  have e46 : ((t.f0 == 6) = true ∧ decide (0 < dp) = false ∧ dp < 32) ∨ ((t.f0 == 6) = false ∧ dp < 32) := by
    rcases h4 with ⟨e6, _, ed, ed2⟩ | ⟨e6, ⟨_, ed2⟩ | eb'⟩
    · exact .inl ⟨e6, ed, ed2⟩
    · exact .inr ⟨e6, ed2⟩
    · rw [ebv] at eb'; cases eb'
  clear h4
  rw [if_pos eb] at H
  clear eb
  obtain ⟨⟨rb, q2, q3, i1, n1⟩, hl1, H⟩ := Option.bind_eq_some_iff.1 H.out
  replace H := Aside0.mk H
  replace hl1 := Aside0.mk hl1
  rcases e46 with ⟨e6, ed, ed2⟩ | ⟨e6, ed2⟩
  all_goals
    go_enter Tryd.func68, Tryd.ntmps68
    go_wp2
    go_region
    go_wp2_with (go_at_call 53; refine (block_any _ _).mono ?_; rintro e w' ⟨rfl, rfl⟩)
    have HS1 := (((((HS.out.set 2 (.int .i64 (n + 1))).set 1 (.int .i64 (i + 1))).alloc (.cells #[.int .i64 0, .int .i64 0, .string ⟨#[]⟩, .string ⟨#[]⟩, .bool false, .bool false, .slice none 0 0, .slice none 0 0] 39)).alloc (.cells #[.int .i64 t.f0, .int .i64 t.f1, .string t.f2, .string t.f3, .bool t.f4] 47)).alloc (.cells #[.int .i64 t.f0, .int .i64 t.f1, .string t.f2, .string t.f3, .bool t.f4, .bool false, .slice none 0 0, .slice none 0 0] 39)).drew.cast (cs' := stC (some ad) c l (i + 1) (n + 1)) rfl
    refine (HL.out k (by omega) g _ c l (i + 1) (n + 1) t.f0 false (dp + 1) rb q2 q3 i1 n1 w0 _ HS1.again HR.out hc hl1.out).mono ?_
    rintro e w2 ⟨v6, rfl, R6, S2⟩
    have B4 := S2.other (k := w.heap.size) (o := .cells #[.int .i64 0, .int .i64 0, .string ⟨#[]⟩, .string ⟨#[]⟩, .bool false, .bool false, .slice none 0 0, .slice none 0 0] 39) (by repeat (first | (refine blk_new' ?_; simp; done) | refine blk_drew ?_ | refine blk_alloc ?_ _)) (by omega)
    have B7 := S2.other (k := w.heap.size + 1) (o := .cells #[.int .i64 t.f0, .int .i64 t.f1, .string t.f2, .string t.f3, .bool t.f4] 47) (by repeat (first | (refine blk_new' ?_; simp; done) | refine blk_drew ?_ | refine blk_alloc ?_ _)) (by omega)
    have B8 := S2.other (k := w.heap.size + 1 + 1) (o := .cells #[.int .i64 t.f0, .int .i64 t.f1, .string t.f2, .string t.f3, .bool t.f4, .bool false, .slice none 0 0, .slice none 0 0] 39) (by repeat (first | (refine blk_new' ?_; simp; done) | refine blk_drew ?_ | refine blk_alloc ?_ _)) (by omega)
    replace R6 := Kd.R_lower (base' := w.heap.size + 1 + 1 + 1) R6 (by simp)
    have HS2 := HS1.call S2
    clear HS1 S2 HS hb0 hb1 hb2 hf1 hf2 x0 x1 x2 x3 x4 hads
    obtain ⟨A6, c6, rfl⟩ := Kd.R_slice R6
    have hsz := blk_lt B8
    have hne4 : g ≠ w.heap.size := by omega
    have hne7 : g ≠ w.heap.size + 1 := by omega
    have hne8 : g ≠ w.heap.size + 1 + 1 := by omega
    have c40 : w2.cell? ⟨w.heap.size, 0, none⟩ = some (.int .i64 0) := (blk_cell B4 0).trans rfl
    have c41 : w2.cell? ⟨w.heap.size, 1, none⟩ = some (.int .i64 0) := (blk_cell B4 1).trans rfl
    have c42 : w2.cell? ⟨w.heap.size, 2, none⟩ = some (.string ⟨#[]⟩) := (blk_cell B4 2).trans rfl
    have c43 : w2.cell? ⟨w.heap.size, 3, none⟩ = some (.string ⟨#[]⟩) := (blk_cell B4 3).trans rfl
    have c44 : w2.cell? ⟨w.heap.size, 4, none⟩ = some (.bool false) := (blk_cell B4 4).trans rfl
    have c45 : w2.cell? ⟨w.heap.size, 5, none⟩ = some (.bool false) := (blk_cell B4 5).trans rfl
    have c46 : w2.cell? ⟨w.heap.size, 6, none⟩ = some (.slice none 0 0) := (blk_cell B4 6).trans rfl
    have c47 : w2.cell? ⟨w.heap.size, 7, none⟩ = some (.slice none 0 0) := (blk_cell B4 7).trans rfl
    have z40 := blk_frozen B4 0
    have z41 := blk_frozen B4 1
    have z42 := blk_frozen B4 2
    have z43 := blk_frozen B4 3
    have z44 := blk_frozen B4 4
    have z45 := blk_frozen B4 5
    have z46 := blk_frozen B4 6
    have z47 := blk_frozen B4 7
    have c70 : w2.cell? ⟨w.heap.size + 1, 0, none⟩ = some (.int .i64 t.f0) := (blk_cell B7 0).trans rfl
    have c71 : w2.cell? ⟨w.heap.size + 1, 1, none⟩ = some (.int .i64 t.f1) := (blk_cell B7 1).trans rfl
    have c80 : w2.cell? ⟨w.heap.size + 1 + 1, 0, none⟩ = some (.int .i64 t.f0) := (blk_cell B8 0).trans rfl
    have c81 : w2.cell? ⟨w.heap.size + 1 + 1, 1, none⟩ = some (.int .i64 t.f1) := (blk_cell B8 1).trans rfl
    have c82 : w2.cell? ⟨w.heap.size + 1 + 1, 2, none⟩ = some (.string t.f2) := (blk_cell B8 2).trans rfl
    have c83 : w2.cell? ⟨w.heap.size + 1 + 1, 3, none⟩ = some (.string t.f3) := (blk_cell B8 3).trans rfl
    have c84 : w2.cell? ⟨w.heap.size + 1 + 1, 4, none⟩ = some (.bool t.f4) := (blk_cell B8 4).trans rfl
    have c85 : w2.cell? ⟨w.heap.size + 1 + 1, 5, none⟩ = some (.bool false) := (blk_cell B8 5).trans rfl
    have c86 : w2.cell? ⟨w.heap.size + 1 + 1, 6, none⟩ = some (.slice none 0 0) := (blk_cell B8 6).trans rfl
    have c87 : w2.cell? ⟨w.heap.size + 1 + 1, 7, none⟩ = some (.slice none 0 0) := (blk_cell B8 7).trans rfl
    have z85 := blk_frozen B8 5
    have z86 := blk_frozen B8 6
    have z87 := blk_frozen B8 7
    replace B4 := Aside0.mk B4
    replace B7 := Aside0.mk B7
    replace B8 := Aside0.mk B8
    replace R6 := Aside0.mk R6
    have hb0 : w2.cell? ⟨g, 0, none⟩ = some (.slice (some ad) l.length c) := (HS2.cell 0).trans rfl
    have hb1 : w2.cell? ⟨g, 1, none⟩ = some (.int .i64 i1) := (HS2.cell 1).trans rfl
    have hf1 := HS2.frozen 1
    replace HS2 := Aside0.mk HS2
    have hB4 : w.heap.size < w.heap.size + 1 + 1 + 1 := by omega
    have hB8 : w.heap.size + 1 + 1 < w.heap.size + 1 + 1 + 1 := by omega
    have hBg : g < w.heap.size + 1 + 1 + 1 := by omega
    have hle9 : w.heap.size ≤ w.heap.size + 1 + 1 + 1 := by omega
    have hle8 : w.heap.size ≤ w.heap.size + 1 + 1 := by omega
    have hne48 : w.heap.size ≠ w.heap.size + 1 + 1 := by omega
    by_cases h3 : q3 = 0
    case neg =>
      have H2 := H.out; clear H
      rw [if_neg h3] at H2
      have h3' : (q3 != 0) = true := by simp [h3]
      clear h3
      simp only [Option.some.injEq, Prod.mk.injEq] at H2
      obtain ⟨rfl, rfl, rfl, rfl, rfl⟩ := H2
      go_wp2
      refine bodyPost_ret (results_ctt rfl _ _ w.heap.size 39 #[.int .i64 0, .int .i64 0, .string ⟨#[]⟩, .string ⟨#[]⟩, .bool false, .bool false, .slice none 0 0, .slice none 0 0] (0, 0) _ rfl ?_ Tryd.underlying39 rfl (by kernel_rfl)) rfl ?_
      · repeat (first | (with_reducible exact B4.out) | (with_reducible refine blk_drewN ?_ _) | (with_reducible refine blk_drew ?_) | (with_reducible refine blk_set8 (cs := #[.int .i64 0, .int .i64 0, .string ⟨#[]⟩, .string ⟨#[]⟩, .bool false, .bool false, .slice none 0 0, .slice none 0 0]) ?_ rfl _ _ _ _ _ _ _ _) | (with_reducible refine blk_far' ?_ hne4.symm _) | (with_reducible refine blk_far' ?_ hne48 _))
      · exact ⟨_, _, rfl, Kd.R_nil _ _ _ _ _, Kd.R_nil _ _ _ _ _, (by repeat (first | (with_reducible exact HS2.out) | (with_reducible apply Stp.drew) | (with_reducible refine Stp.drewN ?_ _) | (with_reducible refine Stp.far' ?_ (Nat.le_refl _) hne4 _) | (with_reducible refine Stp.far' ?_ hle8 hne8 _)))⟩
    rw [if_pos h3] at H
    have h3' : (q3 != 0) = false := by simp [h3]
    clear h3
    by_cases hlt : i1 < (l.length : Int)
    case neg =>
      have H2 := H.out; clear H
      rw [if_neg hlt] at H2
      simp only [Option.some.injEq, Prod.mk.injEq] at H2
      obtain ⟨rfl, rfl, rfl, rfl, rfl⟩ := H2
      have hlt' : decide (i1 < (l.length : Int)) = false := decide_eq_false hlt
      go_wp2
      go_quiet (fail)
      go_wp2
      go_quiet (fail)
      go_wp2
      go_region
      go_wp2
      refine bodyPost_ret (results_ctt rfl _ _ w.heap.size 39 #[.int .i64 0, .int .i64 0, .string ⟨#[]⟩, .string ⟨#[]⟩, .bool false, .bool false, .slice none 0 0, .slice none 0 0] (0, 0) _ rfl ?_ Tryd.underlying39 rfl (by kernel_rfl)) rfl ?_
      · repeat (first | (with_reducible exact B4.out) | (with_reducible refine blk_drewN ?_ _) | (with_reducible refine blk_drew ?_) | (with_reducible refine blk_set8 (cs := #[.int .i64 0, .int .i64 0, .string ⟨#[]⟩, .string ⟨#[]⟩, .bool false, .bool false, .slice none 0 0, .slice none 0 0]) ?_ rfl _ _ _ _ _ _ _ _) | (with_reducible refine blk_far' ?_ hne4.symm _) | (with_reducible refine blk_far' ?_ hne48 _))
      · exact ⟨_, _, rfl, Kd.R_nil _ _ _ _ _, Kd.R_nil _ _ _ _ _, (by repeat (first | (with_reducible exact HS2.out) | (with_reducible apply Stp.drew) | (with_reducible refine Stp.drewN ?_ _) | (with_reducible refine Stp.far' ?_ (Nat.le_refl _) hne4 _) | (with_reducible refine Stp.far' ?_ hle8 hne8 _)))⟩
    rw [if_pos hlt] at H
    by_cases hi : 0 ≤ i1 ∧ i1 ≤ 100000
    case neg => have H2 := H.out; rw [if_neg hi] at H2; cases H2
    rw [if_pos hi] at H
    obtain ⟨hi10, hi11⟩ := hi
    obtain ⟨ad', he, y0, _⟩ := at_T47 HR.out i1 hi10 hlt
    cases he
    have hadb := World.block_lt_of_cell? _ _ y0
    have y1 := (HS2.out.far' (j := 6) hle8 hne8 (.slice A6 rb.length c6)).old y0
    replace y0 := HS2.out.old y0
    have hle := HS2.out.le
    have hna4 : (ad.add (i1.toNat * 5)).block ≠ w.heap.size := by omega
    have hna8 : (ad.add (i1.toNat * 5)).block ≠ w.heap.size + 1 + 1 := by omega
    by_cases h7 : (rd_T47 l i1).f0 = 7
    case neg =>
      have H2 := H.out; clear H
      rw [if_neg h7] at H2
      simp only [Option.some.injEq, Prod.mk.injEq] at H2
      obtain ⟨rfl, rfl, rfl, rfl, rfl⟩ := H2
      have h7' : ((rd_T47 l i1).f0 == 7) = false := beq_eq_false_iff_ne.mpr h7
      clear h7
      go_wp2
      go_quiet (fail)
      go_wp2
      go_quiet (fail)
      go_wp2
      refine bodyPost_ret (results_ctt rfl _ _ w.heap.size 39 #[.int .i64 t.f0, .int .i64 t.f1, .string t.f2, .string t.f3, .bool t.f4, .bool false, .slice A6 rb.length c6, .slice none 0 0] (0, 0) _ rfl ?_ Tryd.underlying39 rfl (by kernel_rfl)) rfl ?_
      · repeat (first | (with_reducible exact B4.out) | (with_reducible refine blk_drewN ?_ _) | (with_reducible refine blk_drew ?_) | (with_reducible refine blk_set8 (cs := #[.int .i64 0, .int .i64 0, .string ⟨#[]⟩, .string ⟨#[]⟩, .bool false, .bool false, .slice none 0 0, .slice none 0 0]) ?_ rfl _ _ _ _ _ _ _ _) | (with_reducible refine blk_far' ?_ hne4.symm _) | (with_reducible refine blk_far' ?_ hne48 _))
      · exact ⟨_, _, rfl, (Kd.R_lower (show Kd.R k39 39 _ (w.heap.size + 1 + 1 + 1) (fun _ => True) _ _ from by repeat (first | (with_reducible exact R6.out) | (with_reducible refine Kd.R_drewN ?_ _) | (with_reducible apply Kd.R_drew) | (with_reducible refine R_farB ?_ hB4 _) | (with_reducible refine R_farB ?_ hB8 _) | (with_reducible refine R_farB ?_ hBg _))) hle9), Kd.R_nil _ _ _ _ _, ((show Stp w0 w g 73 ((stC (some ad) c l i1 n1).setIfInBounds 1 (.int .i64 (i1 + 1))) _ from by repeat (first | (with_reducible exact HS2.out) | (with_reducible apply Stp.drew) | (with_reducible refine Stp.drewN ?_ _) | (with_reducible refine Stp.set ?_ 1 _) | (with_reducible refine Stp.far' ?_ (Nat.le_refl _) hne4 _) | (with_reducible refine Stp.far' ?_ hle8 hne8 _))).cast rfl)⟩
    case pos =>
      rw [if_pos h7] at H
      have h7' : ((rd_T47 l i1).f0 == 7) = true := beq_iff_eq.mpr h7
      clear h7
      obtain ⟨⟨rb2, p2, p3, i2, n2⟩, hl2, H⟩ := Option.bind_eq_some_iff.1 H.out
      replace H := Aside0.mk H
      replace hl2 := Aside0.mk hl2
      go_wp2
      go_quiet (fail)
      rename_i nq
      go_wp2_with fail
      have HS3 := ((show Stp w0 w g 73 ((stC (some ad) c l i1 n1).setIfInBounds 1 (.int .i64 (i1 + 1))) ((((w2.setCell ⟨w.heap.size + 1 + 1, 6, none⟩ (.slice A6 rb.length c6)).drewN nq).setCell ⟨g, 1, none⟩ (.int .i64 (i1 + 1))).setCell ⟨w.heap.size + 1 + 1, 5, none⟩ (.bool true)) from by repeat (first | (with_reducible exact HS2.out) | (with_reducible apply Stp.drew) | (with_reducible refine Stp.drewN ?_ _) | (with_reducible refine Stp.set ?_ 1 _) | (with_reducible refine Stp.far' ?_ (Nat.le_refl _) hne4 _) | (with_reducible refine Stp.far' ?_ hle8 hne8 _))).cast (cs' := stC (some ad) c l (i1 + 1) n1) rfl)
      refine (HL.out k (by omega) g _ c l (i1 + 1) n1 t.f0 true (dp + 1) rb2 p2 p3 i2 n2 w0 _ HS3.again HR.out hc hl2.out).mono ?_
      rintro e w3 ⟨v7, rfl, R7, S3⟩
      replace B4 := S3.other (k := w.heap.size) (o := .cells #[.int .i64 0, .int .i64 0, .string ⟨#[]⟩, .string ⟨#[]⟩, .bool false, .bool false, .slice none 0 0, .slice none 0 0] 39) (blk_far' (blk_far' (blk_drewN (blk_far' B4.out hne48 _) nq) hne4.symm _) hne48 _) hne4.symm
      replace B7 := S3.other (k := w.heap.size + 1) (o := .cells #[.int .i64 t.f0, .int .i64 t.f1, .string t.f2, .string t.f3, .bool t.f4] 47) (blk_far' (blk_far' (blk_drewN (blk_far' B7.out (by omega) _) nq) hne7.symm _) (by omega) _) hne7.symm
      replace B8 := S3.other (k := w.heap.size + 1 + 1) (o := .cells #[.int .i64 t.f0, .int .i64 t.f1, .string t.f2, .string t.f3, .bool t.f4, .bool true, .slice A6 rb.length c6, .slice none 0 0] 39) (blk_set (blk_far' (blk_drewN (blk_set B8.out 6 _) nq) hne8.symm _) 5 _) hne8.symm
      replace R7 := Kd.R_lower (base' := w.heap.size + 1 + 1 + 1) R7 (by simp; omega)
      replace R6 := Aside0.mk (R_keepBut (show Kd.R k39 39 _ (w.heap.size + 1 + 1 + 1) (fun _ => True) _ _ from R_farB (R_farB (Kd.R_drewN (R_farB R6.out hB8 _) nq) hBg _) hB8 _) S3.keep hBg)
      have HS4 := HS3.call S3
      clear HS3 S3 HS2 hb0 hb1 hf1 y0 y1 c40 z40 c80 c41 z41 c81 c42 z42 c82 c43 z43 c83 c44 z44 c84 c45 z45 c85 c46 z46 c86 c47 z47 c87 c70 c71 z85 z86 z87
      obtain ⟨A7, c7, rfl⟩ := Kd.R_slice R7
      replace hsz := blk_lt B8
      have c40 : w3.cell? ⟨w.heap.size, 0, none⟩ = some (.int .i64 0) := (blk_cell B4 0).trans rfl
      have c41 : w3.cell? ⟨w.heap.size, 1, none⟩ = some (.int .i64 0) := (blk_cell B4 1).trans rfl
      have c42 : w3.cell? ⟨w.heap.size, 2, none⟩ = some (.string ⟨#[]⟩) := (blk_cell B4 2).trans rfl
      have c43 : w3.cell? ⟨w.heap.size, 3, none⟩ = some (.string ⟨#[]⟩) := (blk_cell B4 3).trans rfl
      have c44 : w3.cell? ⟨w.heap.size, 4, none⟩ = some (.bool false) := (blk_cell B4 4).trans rfl
      have c45 : w3.cell? ⟨w.heap.size, 5, none⟩ = some (.bool false) := (blk_cell B4 5).trans rfl
      have c46 : w3.cell? ⟨w.heap.size, 6, none⟩ = some (.slice none 0 0) := (blk_cell B4 6).trans rfl
      have c47 : w3.cell? ⟨w.heap.size, 7, none⟩ = some (.slice none 0 0) := (blk_cell B4 7).trans rfl
      have z40 := blk_frozen B4 0
      have z41 := blk_frozen B4 1
      have z42 := blk_frozen B4 2
      have z43 := blk_frozen B4 3
      have z44 := blk_frozen B4 4
      have z45 := blk_frozen B4 5
      have z46 := blk_frozen B4 6
      have z47 := blk_frozen B4 7
      have c70 : w3.cell? ⟨w.heap.size + 1, 0, none⟩ = some (.int .i64 t.f0) := (blk_cell B7 0).trans rfl
      have c71 : w3.cell? ⟨w.heap.size + 1, 1, none⟩ = some (.int .i64 t.f1) := (blk_cell B7 1).trans rfl
      have c80 : w3.cell? ⟨w.heap.size + 1 + 1, 0, none⟩ = some (.int .i64 t.f0) := (blk_cell B8 0).trans rfl
      have c81 : w3.cell? ⟨w.heap.size + 1 + 1, 1, none⟩ = some (.int .i64 t.f1) := (blk_cell B8 1).trans rfl
      have c82 : w3.cell? ⟨w.heap.size + 1 + 1, 2, none⟩ = some (.string t.f2) := (blk_cell B8 2).trans rfl
      have c83 : w3.cell? ⟨w.heap.size + 1 + 1, 3, none⟩ = some (.string t.f3) := (blk_cell B8 3).trans rfl
      have c84 : w3.cell? ⟨w.heap.size + 1 + 1, 4, none⟩ = some (.bool t.f4) := (blk_cell B8 4).trans rfl
      have c85 : w3.cell? ⟨w.heap.size + 1 + 1, 5, none⟩ = some (.bool true) := (blk_cell B8 5).trans rfl
      have c86 : w3.cell? ⟨w.heap.size + 1 + 1, 6, none⟩ = some (.slice A6 rb.length c6) := (blk_cell B8 6).trans rfl
      have c87 : w3.cell? ⟨w.heap.size + 1 + 1, 7, none⟩ = some (.slice none 0 0) := (blk_cell B8 7).trans rfl
      have z85 := blk_frozen B8 5
      have z86 := blk_frozen B8 6
      have z87 := blk_frozen B8 7
      replace B4 := Aside0.mk B4
      replace B7 := Aside0.mk B7
      replace B8 := Aside0.mk B8
      replace R7 := Aside0.mk R7
      have hb0 : w3.cell? ⟨g, 0, none⟩ = some (.slice (some ad) l.length c) := (HS4.cell 0).trans rfl
      have hb1 : w3.cell? ⟨g, 1, none⟩ = some (.int .i64 i2) := (HS4.cell 1).trans rfl
      have hf1 := HS4.frozen 1
      replace HS4 := Aside0.mk HS4
      by_cases h5 : p3 = 0
      case neg =>
        have H2 := H.out; clear H
        rw [if_neg h5] at H2
        have h5' : (p3 != 0) = true := by simp [h5]
        clear h5
        simp only [Option.some.injEq, Prod.mk.injEq] at H2
        obtain ⟨rfl, rfl, rfl, rfl, rfl⟩ := H2
        go_wp2
        refine bodyPost_ret (results_ctt rfl _ _ w.heap.size 39 #[.int .i64 0, .int .i64 0, .string ⟨#[]⟩, .string ⟨#[]⟩, .bool false, .bool false, .slice none 0 0, .slice none 0 0] (0, 0) _ rfl ?_ Tryd.underlying39 rfl (by kernel_rfl)) rfl ?_
        · repeat (first | (with_reducible exact B4.out) | (with_reducible refine blk_drewN ?_ _) | (with_reducible refine blk_drew ?_) | (with_reducible refine blk_set8 (cs := #[.int .i64 0, .int .i64 0, .string ⟨#[]⟩, .string ⟨#[]⟩, .bool false, .bool false, .slice none 0 0, .slice none 0 0]) ?_ rfl _ _ _ _ _ _ _ _) | (with_reducible refine blk_far' ?_ hne4.symm _) | (with_reducible refine blk_far' ?_ hne48 _))
        · exact ⟨_, _, rfl, Kd.R_nil _ _ _ _ _, Kd.R_nil _ _ _ _ _, (by repeat (first | (with_reducible exact HS4.out) | (with_reducible apply Stp.drew) | (with_reducible refine Stp.drewN ?_ _) | (with_reducible refine Stp.far' ?_ (Nat.le_refl _) hne4 _) | (with_reducible refine Stp.far' ?_ hle8 hne8 _)))⟩
      rw [if_pos h5] at H
      have h5' : (p3 != 0) = false := by simp [h5]
      clear h5
      by_cases hge : i2 ≥ (l.length : Int)
      case pos =>
        have H2 := H.out; clear H
        rw [if_pos hge] at H2
        simp only [Option.some.injEq, Prod.mk.injEq] at H2
        obtain ⟨rfl, rfl, rfl, rfl, rfl⟩ := H2
        have hge' : (l.length : Int) ≤ i2 := hge
        clear hge
        go_wp2
        go_quiet (fail)
        go_wp2
        go_region
        go_wp2
        refine bodyPost_ret (results_ctt rfl _ _ w.heap.size 39 #[.int .i64 0, .int .i64 0, .string ⟨#[]⟩, .string ⟨#[]⟩, .bool false, .bool false, .slice none 0 0, .slice none 0 0] (0, 0) _ rfl ?_ Tryd.underlying39 rfl (by kernel_rfl)) rfl ?_
        · repeat (first | (with_reducible exact B4.out) | (with_reducible refine blk_drewN ?_ _) | (with_reducible refine blk_drew ?_) | (with_reducible refine blk_set8 (cs := #[.int .i64 0, .int .i64 0, .string ⟨#[]⟩, .string ⟨#[]⟩, .bool false, .bool false, .slice none 0 0, .slice none 0 0]) ?_ rfl _ _ _ _ _ _ _ _) | (with_reducible refine blk_far' ?_ hne4.symm _) | (with_reducible refine blk_far' ?_ hne48 _))
        · exact ⟨_, _, rfl, Kd.R_nil _ _ _ _ _, Kd.R_nil _ _ _ _ _, (by repeat (first | (with_reducible exact HS4.out) | (with_reducible apply Stp.drew) | (with_reducible refine Stp.drewN ?_ _) | (with_reducible refine Stp.far' ?_ (Nat.le_refl _) hne4 _) | (with_reducible refine Stp.far' ?_ hle8 hne8 _)))⟩
      rw [if_neg hge] at H
      by_cases hi2 : 0 ≤ i2 ∧ i2 ≤ 100000
      case neg => have H2 := H.out; rw [if_neg hi2] at H2; cases H2
      have H2 := H.out; clear H
      rw [if_pos hi2] at H2
      simp only [Option.some.injEq, Prod.mk.injEq] at H2
      obtain ⟨rfl, rfl, rfl, rfl, rfl⟩ := H2
      obtain ⟨hi20, hi21⟩ := hi2
      have hge' : i2 < (l.length : Int) := by omega
      clear hge
      go_wp2
      go_quiet (fail)
      go_wp2
      refine bodyPost_ret (results_ctt rfl _ _ w.heap.size 39 #[.int .i64 t.f0, .int .i64 t.f1, .string t.f2, .string t.f3, .bool t.f4, .bool true, .slice A6 rb.length c6, .slice A7 rb2.length c7] (0, 0) _ rfl ?_ Tryd.underlying39 rfl (by kernel_rfl)) rfl ?_
      · repeat (first | (with_reducible exact B4.out) | (with_reducible refine blk_drewN ?_ _) | (with_reducible refine blk_drew ?_) | (with_reducible refine blk_set8 (cs := #[.int .i64 0, .int .i64 0, .string ⟨#[]⟩, .string ⟨#[]⟩, .bool false, .bool false, .slice none 0 0, .slice none 0 0]) ?_ rfl _ _ _ _ _ _ _ _) | (with_reducible refine blk_far' ?_ hne4.symm _) | (with_reducible refine blk_far' ?_ hne48 _))
      · exact ⟨_, _, rfl, (Kd.R_lower (show Kd.R k39 39 _ (w.heap.size + 1 + 1 + 1) (fun _ => True) _ _ from by repeat (first | (with_reducible exact R6.out) | (with_reducible refine Kd.R_drewN ?_ _) | (with_reducible apply Kd.R_drew) | (with_reducible refine R_farB ?_ hB4 _) | (with_reducible refine R_farB ?_ hB8 _) | (with_reducible refine R_farB ?_ hBg _))) hle9), (Kd.R_lower (show Kd.R k39 39 _ (w.heap.size + 1 + 1 + 1) (fun _ => True) _ _ from by repeat (first | (with_reducible exact R7.out) | (with_reducible refine Kd.R_drewN ?_ _) | (with_reducible apply Kd.R_drew) | (with_reducible refine R_farB ?_ hB4 _) | (with_reducible refine R_farB ?_ hB8 _) | (with_reducible refine R_farB ?_ hBg _))) hle9), ((show Stp w0 w g 73 ((stC (some ad) c l i2 n2).setIfInBounds 1 (.int .i64 (i2 + 1))) _ from by repeat (first | (with_reducible exact HS4.out) | (with_reducible apply Stp.drew) | (with_reducible refine Stp.drewN ?_ _) | (with_reducible refine Stp.set ?_ 1 _) | (with_reducible refine Stp.far' ?_ (Nat.le_refl _) hne4 _) | (with_reducible refine Stp.far' ?_ hle8 hne8 _))).cast rfl)⟩
end Go.Proofs.YtgdpojleejdfaaaDoor.Px
