import Derived.Test.YtkpnfejfbmandaaDoorPLPk
import Derived.StillTailTactics
/- (*parse.parser).node. -/
namespace Go.Proofs.YtkpnfejfbmandaaDoor.Px
open Go.RowKit Go.Proofs.YtkpnfejfbmandaaDoorW.PrintWords Go.Proofs.YtkpnfejfbmandaaDoorW.PrintLast Go.Proofs.YtkpnfejfbmandaaDoorW.PrintMore
set_option linter.unusedVariables false
set_option linter.unusedSimpArgs false
set_option maxHeartbeats 1000000 in
set_option maxRecDepth 100000 in
theorem pnode.deep (g : Nat) (t : S76) (r : List S76) (n d : Int) (w0 w : World) (hS : PSt w0 w g (t :: r) n d w) (hk : t.f0 ≠ 6) (hb : opK t.f0) (hd : 32 ≤ d) :
    Calls Tryd.prog 55 #[.pointer (some ⟨g, 0, none⟩)] w fun e w' => e = boom t.f1 13 ∧ Below w0.heap.size w0 w' := by
  obtain ⟨A, c, HS, HC, hc⟩ := hS
  obtain ⟨bb, oo, ss, rfl, x0, x1, x2, x3, x4⟩ := head_T28 HC
  rw [List.length_cons] at hc HC
  have hb0 : w.cell? ⟨g, 0, none⟩ = some (.slice (some ⟨bb, oo, ss⟩) (r.length + 1) c) := (HS.cell 0).trans rfl
  have hb2 : w.cell? ⟨g, 2, none⟩ = some (.int .i64 d) := (HS.cell 2).trans rfl
  have hgw : g < w.heap.size := HS.lt
  have hm := Kd.C_max HC
  replace x0 := HS.old x0
  replace x1 := HS.old x1
  replace x2 := HS.old x2
  replace x3 := HS.old x3
  replace x4 := HS.old x4
  have hads := World.block_lt_of_cell? _ _ x1
  replace HS := Aside0.mk HS
  clear HC
  have hlen : (0 : Int) < ((r.length + 1 : Nat) : Int) := by omega
  have hlen' : 0 < r.length + 1 := by omega
  have h6' : (t.f0 != 6) = true := by simp [hk]
  have hbv : opB t.f0 = true := (opB_iff _).2 hb
  have hd' : decide (d < 32) = false := decide_eq_false (by omega)
  clear hk hb
  go_enter Tryd.func55, Tryd.ntmps55
  go_wp2
  go_quiet (first | (go_at_call 33; refine (must_ok _ _ _).mono ?_; rintro e w' ⟨rfl, rfl⟩; exact ⟨rfl, _, rfl⟩))
  go_wp2
  refine wp_region_still_tail 13 (by kernel_rfl) (by kernel_rfl) ?_
  simp only [List.take_succ_cons, List.take_zero, List.drop_succ_cons, List.drop_zero]
  change wpStill _ _ (World.drew _) (fun a' => wpList _ _ _ _ a' (World.drew _)) _ _
  repeat (refine wpStill_step (fun K hK => ?_); go_simp; first | (refine ⟨_, (opens_any _ _).mono (fun e w' h => ⟨h.1, h.2.symm⟩), hK _ ?_⟩; clear hK K) | (refine hK _ ?_; clear hK K))
  refine wpStill_nil ?_
  go_wp2_with (go_at_call 33; (with_reducible refine (must_no _ _ _).mono ?_); rintro e w' ⟨rfl, rfl⟩)
  exact ⟨rfl, rfl, by repeat (first | exact HS.out.bel | apply below_alloc | apply pw_below_drewN | apply below_drew1)⟩
set_option maxHeartbeats 1000000 in
set_option maxRecDepth 100000 in
theorem pnode.leaf (g : Nat) (t : S76) (r : List S76) (n d : Int) (w0 w : World) (hS : PSt w0 w g (t :: r) n d w) (hb : ¬ opK t.f0) (hn0 : 0 ≤ n) (hn : n < 4096) :
    Calls Tryd.prog 55 #[.pointer (some ⟨g, 0, none⟩)] w fun e w' => e = .returned (.agg #[.int .i64 t.f0, .int .i64 t.f1, .string t.f2, .string t.f3, .bool t.f4, .bool false, .slice none 0 0, .slice none 0 0]) ∧ PSt w0 w g r (n + 1) d w' := by
  obtain ⟨A, c, HS, HC, hc⟩ := hS
  obtain ⟨bb, oo, ss, rfl, x0, x1, x2, x3, x4⟩ := head_T28 HC
  rw [List.length_cons] at hc HC
  have hCt := Aside0.mk (cutT_C (by rw [List.length_cons]; exact HC) (by rw [List.length_cons]; exact hc) : Kd.C k76 w0 (cutT (some ⟨bb, oo, ss⟩) c) r.length r)
  have hw1 := cutT1 (some ⟨bb, oo, ss⟩) (r.length + 1) c (by omega)
  simp only [Nat.add_sub_cancel] at hw1
  have hb0 : w.cell? ⟨g, 0, none⟩ = some (.slice (some ⟨bb, oo, ss⟩) (r.length + 1) c) := (HS.cell 0).trans rfl
  have hb1 : w.cell? ⟨g, 1, none⟩ = some (.int .i64 n) := (HS.cell 1).trans rfl
  have hf0 := HS.frozen 0
  have hf1 := HS.frozen 1
  have hgw : g < w.heap.size := HS.lt
  have hm := Kd.C_max HC
  replace x0 := HS.old x0
  replace x1 := HS.old x1
  replace x2 := HS.old x2
  replace x3 := HS.old x3
  replace x4 := HS.old x4
  have hads := World.block_lt_of_cell? _ _ x1
  replace HS := Aside0.mk HS
  clear HC
  have hlen : (0 : Int) < ((r.length + 1 : Nat) : Int) := by omega
  have hlen' : 0 < r.length + 1 := by omega
  have hbv : opB t.f0 = false := by rw [← Bool.not_eq_true, opB_iff]; exact hb
  have h6' : (t.f0 != 6) = true := by rw [bne_iff_ne]; exact fun e => hb (.inr (.inr e))
  have hn1 : decide (n < 4096) = true := decide_eq_true hn
  have hnw : IntKind.i64.wrap (n + 1) = n + 1 := by rw [IntKind.wrap_i64]; omega
  have hc1 := Aside0.mk (show r.length ≤ c - 1 by omega)
  clear hb hn hn0
  go_enter Tryd.func55, Tryd.ntmps55
  go_wp2
  go_quiet (first | (go_at_call 33; refine (must_ok _ _ _).mono ?_; rintro e w' ⟨rfl, rfl⟩; exact ⟨rfl, _, rfl⟩))
  go_wp2
  refine wp_region_still_tail 13 (by kernel_rfl) (by kernel_rfl) ?_
  simp only [List.take_succ_cons, List.take_zero, List.drop_succ_cons, List.drop_zero]
  change wpStill _ _ (World.drew _) (fun a' => wpList _ _ _ _ a' (World.drew _)) _ _
  repeat (refine wpStill_step (fun K hK => ?_); go_simp; first | (refine ⟨_, (opens_any _ _).mono (fun e w' h => ⟨h.1, h.2.symm⟩), hK _ ?_⟩; clear hK K) | (refine hK _ ?_; clear hK K))
  refine wpStill_nil ?_
  go_wp2_with (go_at_call 33; (with_reducible refine (must_ok _ _ _).mono ?_); rintro e w' ⟨rfl, rfl⟩)
  refine wp_region_still_tail 7 (by kernel_rfl) (by kernel_rfl) ?_
  simp only [List.take_succ_cons, List.take_zero, List.drop_succ_cons, List.drop_zero]
  change wpStill _ _ (World.drew _) (fun a' => wpList _ _ _ _ a' (World.drew _)) _ _
  repeat (refine wpStill_step (fun K hK => ?_); go_simp; first | (refine ⟨_, (opens_any _ _).mono (fun e w' h => ⟨h.1, h.2.symm⟩), hK _ ?_⟩; clear hK K) | (refine hK _ ?_; clear hK K))
  refine wpStill_nil ?_
  go_wp2_with (first | (go_at_call 33; (with_reducible refine (must_ok _ _ _).mono ?_); rintro e w' ⟨rfl, rfl⟩) | (go_at_call 78; refine (opens_any _ _).mono ?_; rintro e w' ⟨rfl, rfl⟩))
  refine bodyPost_ret (results_cell_row rfl _ _ w.heap.size 78 #[.int .i64 t.f0, .int .i64 t.f1, .string t.f2, .string t.f3, .bool t.f4, .bool false, .slice none 0 0, .slice none 0 0] (0, 0) _ rfl ?_ Tryd.underlying78 rfl (by kernel_rfl)) rfl ?_
  · refine blk_alloc ?_ _
    refine blk_set8 (cs := #[.int .i64 0, .int .i64 0, .string ⟨#[]⟩, .string ⟨#[]⟩, .bool false, .bool false, .slice none 0 0, .slice none 0 0]) ?_ rfl _ _ _ _ _ _ _ _
    refine blk_far' ?_ (Nat.ne_of_gt hgw) _
    refine blk_far' ?_ (Nat.ne_of_gt hgw) _
    refine blk_drewN ?_ _
    refine blk_alloc ?_ _
    exact blk_new _ _
  · refine ⟨rfl, cutT (some ⟨bb, oo, ss⟩) c, c - 1, ?_, hCt.out, hc1.out⟩
    have h1 := ((HS.out.alloc (.cells #[.int .i64 0, .int .i64 0, .string ⟨#[]⟩, .string ⟨#[]⟩, .bool false, .bool false, .slice none 0 0, .slice none 0 0] 78)).alloc (.cells #[.int .i64 t.f0, .int .i64 t.f1, .string t.f2, .string t.f3, .bool t.f4] 76)).drewN (nq + 1 + 1)
    have h2 := ((h1.set 1 (.int .i64 (n + 1))).set 0 (.slice (cutT (some ⟨bb, oo, ss⟩) c) r.length (c - 1))).cast (cs' := stP (cutT (some ⟨bb, oo, ss⟩) c) (c - 1) r (n + 1) d) rfl
    have hle := Nat.le_refl w.heap.size
    have hne := Nat.ne_of_lt hgw
    refine Stp.alloc ?_ _
    exact (((((((h2.far' hle hne _).far' hle hne _).far' hle hne _).far' hle hne _).far' hle hne _).far' hle hne _).far' hle hne _).far' hle hne _
set_option maxHeartbeats 1000000 in
set_option maxRecDepth 100000 in
theorem pnode.blk (k : Nat) (HBk : pblk.Con k) (g : Nat) (t : S76) (r : List S76) (n d : Int) (res : PA S78) (w0 w : World) (hS : PSt w0 w g (t :: r) n d w) (hb : opK t.f0) (h6 : t.f0 = 6 → d = 0) (hd0 : 0 ≤ d) (hd : d < 32) (hn0 : 0 ≤ n) (hn : n < 4096) (h : pblk k t r (n + 1) d = some res) :
    Calls Tryd.prog 55 #[.pointer (some ⟨g, 0, none⟩)] w fun e w' => PPost w0 w g d (fun e x w' => ∃ v6 v7 : Value, e = .returned (.agg #[.int .i64 x.f0, .int .i64 x.f1, .string x.f2, .string x.f3, .bool x.f4, .bool x.f5, v6, v7]) ∧ Kd.R k78 78 w' w.heap.size (fun _ => True) v6 x.f6 ∧ Kd.R k78 78 w' w.heap.size (fun _ => True) v7 x.f7) res e w' := by
  replace HBk := Aside0.mk HBk
  replace h := Aside0.mk h
  obtain ⟨A, c, HS, HC, hc⟩ := hS
  obtain ⟨bb, oo, ss, rfl, x0, x1, x2, x3, x4⟩ := head_T28 HC
  rw [List.length_cons] at hc HC
  have hCt := Aside0.mk (cutT_C (by rw [List.length_cons]; exact HC) (by rw [List.length_cons]; exact hc) : Kd.C k76 w0 (cutT (some ⟨bb, oo, ss⟩) c) r.length r)
  have hw1 := cutT1 (some ⟨bb, oo, ss⟩) (r.length + 1) c (by omega)
  simp only [Nat.add_sub_cancel] at hw1
  have hb0 : w.cell? ⟨g, 0, none⟩ = some (.slice (some ⟨bb, oo, ss⟩) (r.length + 1) c) := (HS.cell 0).trans rfl
  have hb2 : w.cell? ⟨g, 2, none⟩ = some (.int .i64 d) := (HS.cell 2).trans rfl
  have hb1 : w.cell? ⟨g, 1, none⟩ = some (.int .i64 n) := (HS.cell 1).trans rfl
  have hf0 := HS.frozen 0
  have hf1 := HS.frozen 1
  have hgw : g < w.heap.size := HS.lt
  have hm := Kd.C_max HC
  replace x0 := HS.old x0
  replace x1 := HS.old x1
  replace x2 := HS.old x2
  replace x3 := HS.old x3
  replace x4 := HS.old x4
  have hads := World.block_lt_of_cell? _ _ x1
  replace HS := Aside0.mk HS
  clear HC
  have hlen : (0 : Int) < ((r.length + 1 : Nat) : Int) := by omega
  have hlen' : 0 < r.length + 1 := by omega
  have hbv : opB t.f0 = true := (opB_iff _).2 hb
  have hdl : decide (d < 32) = true := decide_eq_true hd
  have hd1 := Aside0.mk (show 0 ≤ d ∧ d ≤ 100000 by omega)
  have h4 : ((t.f0 != 6) = true ∧ True) ∨ ((t.f0 != 6) = false ∧ (d == 0) = true) := by
    by_cases e6 : t.f0 = 6
    · exact .inr ⟨by simp [e6], by simp [h6 e6]⟩
    · exact .inl ⟨by simp [e6], trivial⟩
  have hn1 : decide (n < 4096) = true := decide_eq_true hn
  have hnw : IntKind.i64.wrap (n + 1) = n + 1 := by rw [IntKind.wrap_i64]; omega
  have hc1 := Aside0.mk (show r.length ≤ c - 1 by omega)
  clear hb hn hn0 h6 hd hd0
  rcases h4 with ⟨h6', h0'⟩ | ⟨h6', h0'⟩
  all_goals
    go_enter Tryd.func55, Tryd.ntmps55
    go_wp2
    go_quiet (first | (go_at_call 33; refine (must_ok _ _ _).mono ?_; rintro e w' ⟨rfl, rfl⟩; exact ⟨rfl, _, rfl⟩))
    go_wp2
    refine wp_region_still_tail 13 (by kernel_rfl) (by kernel_rfl) ?_
    simp only [List.take_succ_cons, List.take_zero, List.drop_succ_cons, List.drop_zero]
    change wpStill _ _ (World.drew _) (fun a' => wpList _ _ _ _ a' (World.drew _)) _ _
    repeat (refine wpStill_step (fun K hK => ?_); go_simp; first | (refine ⟨_, (opens_any _ _).mono (fun e w' h => ⟨h.1, h.2.symm⟩), hK _ ?_⟩; clear hK K) | (refine hK _ ?_; clear hK K))
    refine wpStill_nil ?_
    go_wp2_with (go_at_call 33; (with_reducible refine (must_ok _ _ _).mono ?_); rintro e w' ⟨rfl, rfl⟩)
    refine wp_region_still_tail 7 (by kernel_rfl) (by kernel_rfl) ?_
    simp only [List.take_succ_cons, List.take_zero, List.drop_succ_cons, List.drop_zero]
    change wpStill _ _ (World.drew _) (fun a' => wpList _ _ _ _ a' (World.drew _)) _ _
    repeat (refine wpStill_step (fun K hK => ?_); go_simp; first | (refine ⟨_, (opens_any _ _).mono (fun e w' h => ⟨h.1, h.2.symm⟩), hK _ ?_⟩; clear hK K) | (refine hK _ ?_; clear hK K))
    refine wpStill_nil ?_
    go_wp2_with (first | (go_at_call 33; (with_reducible refine (must_ok _ _ _).mono ?_); rintro e w' ⟨rfl, rfl⟩) | (go_at_call 78; refine (opens_any _ _).mono ?_; rintro e w' ⟨rfl, rfl⟩) | fail)
    clear x0 x1 x2 x3 x4 hb0 hb1 hb2 hf0 hf1 hw1 hlen hlen' hm hads hn1 hnw hdl hbv
    have hle := Nat.le_refl w.heap.size
    have hne := Nat.ne_of_lt hgw
    have hret0 : ((((((w.alloc (.cells #[.int .i64 0, .int .i64 0, .string ⟨#[]⟩, .string ⟨#[]⟩, .bool false, .bool false, .slice none 0 0, .slice none 0 0] 78)).alloc (.cells #[.int .i64 t.f0, .int .i64 t.f1, .string t.f2, .string t.f3, .bool t.f4] 76)).drewN (nq + 1 + 1)).setCell ⟨g, 1, none⟩ (.int .i64 (n + 1))).setCell ⟨g, 0, none⟩ (.slice (cutT (some ⟨bb, oo, ss⟩) c) r.length (c - 1))).alloc (.cells #[.int .i64 t.f0, .int .i64 t.f1, .string t.f2, .string t.f3, .bool t.f4, .bool false, .slice none 0 0, .slice none 0 0] 78)).heap[w.heap.size]? = some (.cells #[.int .i64 0, .int .i64 0, .string ⟨#[]⟩, .string ⟨#[]⟩, .bool false, .bool false, .slice none 0 0, .slice none 0 0] 78 (0, 0)) := by
      refine blk_alloc ?_ _
      refine blk_far' ?_ (Nat.ne_of_gt hgw) _
      refine blk_far' ?_ (Nat.ne_of_gt hgw) _
      refine blk_drewN ?_ _
      refine blk_alloc ?_ _
      exact blk_new _ _
    replace hret0 := Aside0.mk hret0
    refine (HBk.out g (w.heap.size + 1 + 1) t r (n + 1) d res w0 w _ ?_ ?_ (by omega) (by omega) hgw hd1.out h.out).mono ?_
    · refine ⟨cutT (some ⟨bb, oo, ss⟩) c, c - 1, Stp.alloc ?_ _, hCt.out, hc1.out⟩
      have h1 := ((HS.out.alloc (.cells #[.int .i64 0, .int .i64 0, .string ⟨#[]⟩, .string ⟨#[]⟩, .bool false, .bool false, .slice none 0 0, .slice none 0 0] 78)).alloc (.cells #[.int .i64 t.f0, .int .i64 t.f1, .string t.f2, .string t.f3, .bool t.f4] 76)).drewN (nq + 1 + 1)
      exact ((h1.set 1 (.int .i64 (n + 1))).set 0 (.slice (cutT (some ⟨bb, oo, ss⟩) c) r.length (c - 1))).cast (cs' := stP (cutT (some ⟨bb, oo, ss⟩) c) (c - 1) r (n + 1) d) rfl
    · exact blk_new' (by simp)
    intro e w2 hP
    cases res with
    | error e1 =>
      obtain ⟨at_, er⟩ := e1
      obtain ⟨rfl, hbe⟩ := hP
      clear hret0
      go_wp2
      exact ⟨rfl, rfl, hbe⟩
    | ok q =>
      obtain ⟨x, l2, n2⟩ := q
      obtain ⟨rfl, HS2, ⟨v6, v7, HB, R6, R7⟩, hkeep⟩ := hP
      have HR := hkeep _ _ hret0.out (Nat.ne_of_gt hgw) (by omega)
      clear hkeep hret0
      obtain ⟨A6, c6, rfl⟩ := Kd.R_slice R6
      obtain ⟨A7, c7, rfl⟩ := Kd.R_slice R7
      have hlt2 : w.heap.size < ((((((w.alloc (.cells #[.int .i64 0, .int .i64 0, .string ⟨#[]⟩, .string ⟨#[]⟩, .bool false, .bool false, .slice none 0 0, .slice none 0 0] 78)).alloc (.cells #[.int .i64 t.f0, .int .i64 t.f1, .string t.f2, .string t.f3, .bool t.f4] 76)).drewN (nq + 1 + 1)).setCell ⟨g, 1, none⟩ (.int .i64 (n + 1))).setCell ⟨g, 0, none⟩ (.slice (cutT (some ⟨bb, oo, ss⟩) c) r.length (c - 1))).alloc (.cells #[.int .i64 t.f0, .int .i64 t.f1, .string t.f2, .string t.f3, .bool t.f4, .bool false, .slice none 0 0, .slice none 0 0] 78)).heap.size := by simp; omega
      have R6' := Aside0.mk (Kd.R_lower (R_farB (R_farB (R_farB (R_farB (R_farB (R_farB (R_farB (R_farB R6 (j := 0) hlt2 (.int .i64 x.f0)) (j := 1) hlt2 (.int .i64 x.f1)) (j := 2) hlt2 (.string x.f2)) (j := 3) hlt2 (.string x.f3)) (j := 4) hlt2 (.bool x.f4)) (j := 5) hlt2 (.bool x.f5)) (j := 6) hlt2 (.slice A6 x.f6.length c6)) (j := 7) hlt2 (.slice A7 x.f7.length c7)) (Nat.le_of_lt hlt2))
      have R7' := Aside0.mk (Kd.R_lower (R_farB (R_farB (R_farB (R_farB (R_farB (R_farB (R_farB (R_farB R7 (j := 0) hlt2 (.int .i64 x.f0)) (j := 1) hlt2 (.int .i64 x.f1)) (j := 2) hlt2 (.string x.f2)) (j := 3) hlt2 (.string x.f3)) (j := 4) hlt2 (.bool x.f4)) (j := 5) hlt2 (.bool x.f5)) (j := 6) hlt2 (.slice A6 x.f6.length c6)) (j := 7) hlt2 (.slice A7 x.f7.length c7)) (Nat.le_of_lt hlt2))
      clear R6 R7 hlt2
      have c0 : w2.cell? ⟨w.heap.size + 1 + 1, 0, none⟩ = some (.int .i64 x.f0) := (blk_cell HB 0).trans rfl
      have c1 : w2.cell? ⟨w.heap.size + 1 + 1, 1, none⟩ = some (.int .i64 x.f1) := (blk_cell HB 1).trans rfl
      have c2 : w2.cell? ⟨w.heap.size + 1 + 1, 2, none⟩ = some (.string x.f2) := (blk_cell HB 2).trans rfl
      have c3 : w2.cell? ⟨w.heap.size + 1 + 1, 3, none⟩ = some (.string x.f3) := (blk_cell HB 3).trans rfl
      have c4 : w2.cell? ⟨w.heap.size + 1 + 1, 4, none⟩ = some (.bool x.f4) := (blk_cell HB 4).trans rfl
      have c5 : w2.cell? ⟨w.heap.size + 1 + 1, 5, none⟩ = some (.bool x.f5) := (blk_cell HB 5).trans rfl
      have c6' : w2.cell? ⟨w.heap.size + 1 + 1, 6, none⟩ = some (.slice A6 x.f6.length c6) := (blk_cell HB 6).trans rfl
      have c7' : w2.cell? ⟨w.heap.size + 1 + 1, 7, none⟩ = some (.slice A7 x.f7.length c7) := (blk_cell HB 7).trans rfl
      have y0 : w2.cell? ⟨w.heap.size, 0, none⟩ = some (.int .i64 0) := (blk_cell HR 0).trans rfl
      have y1 : w2.cell? ⟨w.heap.size, 1, none⟩ = some (.int .i64 0) := (blk_cell HR 1).trans rfl
      have y2 : w2.cell? ⟨w.heap.size, 2, none⟩ = some (.string ⟨#[]⟩) := (blk_cell HR 2).trans rfl
      have y3 : w2.cell? ⟨w.heap.size, 3, none⟩ = some (.string ⟨#[]⟩) := (blk_cell HR 3).trans rfl
      have y4 : w2.cell? ⟨w.heap.size, 4, none⟩ = some (.bool false) := (blk_cell HR 4).trans rfl
      have y5 : w2.cell? ⟨w.heap.size, 5, none⟩ = some (.bool false) := (blk_cell HR 5).trans rfl
      have y6 : w2.cell? ⟨w.heap.size, 6, none⟩ = some (.slice none 0 0) := (blk_cell HR 6).trans rfl
      have y7 : w2.cell? ⟨w.heap.size, 7, none⟩ = some (.slice none 0 0) := (blk_cell HR 7).trans rfl
      have z0 := blk_frozen HR 0
      have z1 := blk_frozen HR 1
      have z2 := blk_frozen HR 2
      have z3 := blk_frozen HR 3
      have z4 := blk_frozen HR 4
      have z5 := blk_frozen HR 5
      have z6 := blk_frozen HR 6
      have z7 := blk_frozen HR 7
      replace HR := Aside0.mk HR
      replace HS2 := Aside0.mk HS2
      clear HB HS
      go_wp2
      refine bodyPost_ret (results_cell_row rfl _ _ w.heap.size 78 #[.int .i64 x.f0, .int .i64 x.f1, .string x.f2, .string x.f3, .bool x.f4, .bool x.f5, .slice A6 x.f6.length c6, .slice A7 x.f7.length c7] (0, 0) _ rfl ?_ Tryd.underlying78 rfl (by kernel_rfl)) rfl ?_
      · exact blk_set8 HR.out rfl _ _ _ _ _ _ _ _
      · obtain ⟨A', c', S2, HC2, hc2⟩ := HS2.out
        exact ⟨⟨_, _, rfl, R6'.out, R7'.out⟩, A', c', (((((((S2.far' hle hne _).far' hle hne _).far' hle hne _).far' hle hne _).far' hle hne _).far' hle hne _).far' hle hne _).far' hle hne _, HC2, hc2⟩
set_option maxHeartbeats 4000000 in
set_option maxRecDepth 100000 in
theorem pnode.step (k : Nat) (ihb : ∀ m, m < k → pblk.Con m) : pnode.Con k := by
  intro g t r n d res w0 w hS h
  have hS0 := Aside0.mk hS
  obtain ⟨A, c, HS, HC, hc⟩ := hS
  have hgw : g < w.heap.size := HS.lt
  cases k with
  | zero => exact absurd h (by simp [pnode])
  | succ k =>
  have HBk := Aside0.mk (ihb k (by omega)); clear ihb
  rw [pnode_eq] at h
  by_cases hi : 0 ≤ n ∧ 0 ≤ d
  case neg => rw [if_neg hi] at h; cases h
  rw [if_pos hi] at h
  have H := Aside0.mk h; clear h
  obtain ⟨hn0, hd0⟩ := hi
  obtain ⟨bb, oo, ss, rfl, x0, x1, x2, x3, x4⟩ := head_T28 HC
  rw [List.length_cons] at hc HC
  have hCt := Aside0.mk (cutT_C (by rw [List.length_cons]; exact HC) (by rw [List.length_cons]; exact hc) : Kd.C k76 w0 (cutT (some ⟨bb, oo, ss⟩) c) r.length r)
  have hw1 := cutT1 (some ⟨bb, oo, ss⟩) (r.length + 1) c (by omega)
  simp only [Nat.add_sub_cancel] at hw1
  have hb0 : w.cell? ⟨g, 0, none⟩ = some (.slice (some ⟨bb, oo, ss⟩) (r.length + 1) c) := (HS.cell 0).trans rfl
  have hb1 : w.cell? ⟨g, 1, none⟩ = some (.int .i64 n) := (HS.cell 1).trans rfl
  have hb2 : w.cell? ⟨g, 2, none⟩ = some (.int .i64 d) := (HS.cell 2).trans rfl
  have hf0 := HS.frozen 0
  have hf1 := HS.frozen 1
  have hm := Kd.C_max HC
  replace x0 := HS.old x0
  replace x1 := HS.old x1
  replace x2 := HS.old x2
  replace x3 := HS.old x3
  replace x4 := HS.old x4
  have hads := World.block_lt_of_cell? _ _ x1
  replace HS := Aside0.mk HS
  clear HC
  have hlen : (0 : Int) < ((r.length + 1 : Nat) : Int) := by omega
  have hlen' : 0 < r.length + 1 := by omega
  by_cases h6 : t.f0 = 6 ∧ d > 0
  · have H2 := H.out; clear H
    rw [if_pos h6] at H2
    cases H2
    have h6' : (t.f0 != 6) = false := by simp [h6.1]
    have hd' : (d == 0) = false := by rw [beq_eq_false_iff_ne]; omega
    clear h6 hCt hw1
    go_enter Tryd.func55, Tryd.ntmps55
    go_wp2
    go_region_dies
    all_goals
      go_wp2_with (go_at_call 33; (with_reducible refine (must_no _ _ _).mono ?_); rintro e w' ⟨rfl, rfl⟩)
      exact ⟨rfl, rfl, by repeat (first | exact HS.out.bel | apply below_alloc | apply pw_below_drewN | apply below_drew1)⟩
  rw [if_neg h6] at H
  by_cases hbd : opK t.f0 ∧ d ≥ 32
  · have H2 := H.out; clear H
    rw [if_pos hbd] at H2
    cases H2
    exact pnode.deep g t r n d w0 w hS0.out (fun e => h6 ⟨e, by have := hbd.2; omega⟩) hbd.1 hbd.2
  rw [if_neg hbd] at H
  have h4 : ((t.f0 != 6) = false ∧ opB t.f0 = true ∧ (d == 0) = true ∧ d < 32) ∨ ((t.f0 != 6) = true ∧ ((opB t.f0 = true ∧ d < 32) ∨ opB t.f0 = false)) := by
    by_cases e6 : t.f0 = 6
    · have hd0 : ¬ d > 0 := fun hd => h6 ⟨e6, hd⟩
      exact .inl ⟨by simp [e6], (opB_iff _).2 (.inr (.inr e6)), by rw [beq_iff_eq]; omega, by omega⟩
    · refine .inr ⟨by simp [e6], ?_⟩
      by_cases eb : opK t.f0
      · refine .inl ⟨(opB_iff _).2 eb, ?_⟩
        rcases Int.lt_or_le d 32 with h | h
        · exact h
        · exact absurd ⟨eb, h⟩ hbd
      · refine .inr ?_
        rw [← Bool.not_eq_true, opB_iff]; exact eb
  have h6' := h6
  have hbd' := hbd
  clear h6 hbd
  by_cases hn : n ≥ 4096
  · have H2 := H.out; clear H
    rw [if_pos hn] at H2
    cases H2
    have hn' : decide (n < 4096) = false := decide_eq_false (by omega)
    clear hn hCt hw1 h6' hbd'
    rcases h4 with ⟨e6, eb, ed, ed2⟩ | ⟨e6, ⟨eb, ed2⟩ | eb⟩
    all_goals
      go_enter Tryd.func55, Tryd.ntmps55
      go_wp2
      go_quiet (first | (go_at_call 33; refine (must_ok _ _ _).mono ?_; rintro e w' ⟨rfl, rfl⟩; exact ⟨rfl, _, rfl⟩))
      go_wp2
      go_quiet (first | (go_at_call 78; refine (opens_any _ _).mono ?_; rintro e w' ⟨rfl, rfl⟩; exact ⟨rfl, _, rfl⟩) | (go_at_call 33; refine (must_ok _ _ _).mono ?_; rintro e w' ⟨rfl, rfl⟩; exact ⟨rfl, _, rfl⟩))
      go_wp2
      go_region_dies
      all_goals
        go_wp2_with (go_at_call 33; (with_reducible refine (must_no _ _ _).mono ?_); rintro e w' ⟨rfl, rfl⟩)
        exact ⟨rfl, rfl, by repeat (first | exact HS.out.bel | apply below_alloc | apply pw_below_drewN | apply below_drew1)⟩
  rw [if_neg hn] at H
  clear h4
  by_cases eb : opK t.f0
  case neg =>
    rw [if_neg eb] at H
    have H2 := H.out; clear H
    cases H2
    exact (pnode.leaf g t r n d w0 w hS0.out eb hn0 (by omega)).mono fun e w' h => ⟨⟨_, _, h.1, Kd.R_nil _ _ _ _ _, Kd.R_nil _ _ _ _ _⟩, h.2⟩
  rw [if_pos eb] at H
  exact pnode.blk k HBk.out g t r n d res w0 w hS0.out eb (fun e => Int.le_antisymm (Int.not_lt.1 fun h => h6' ⟨e, h⟩) hd0) hd0 (Int.not_le.1 fun h => hbd' ⟨eb, h⟩) hn0 (by omega) H.out
end Go.Proofs.YtkpnfejfbmandaaDoor.Px
