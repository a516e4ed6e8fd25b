import Derived.Test.YtkpnfejfbmandaaDoorCU9
import Derived.StillTailTactics
import Derived.Defers
import Derived.Recover
/- (*parse.parser).node. -/
namespace Go.Proofs.YtkpnfejfbmandaaDoor.Px
open Go.RowKit Go.Proofs.YtkpnfejfbmandaaDoorW.PrintWords Go.Proofs.YtkpnfejfbmandaaDoorW.PrintLast Go.Proofs.YtkpnfejfbmandaaDoorW.PrintMore
set_option linter.unusedVariables false
set_option linter.unusedSimpArgs false
set_option maxHeartbeats 1000000 in
set_option maxRecDepth 100000 in
theorem pnode.deep (g : Nat) (t : S76) (r : List S76) (n d : Int) (w0 w : World) (hS : PSt w0 w g (t :: r) n d w) (hk : t.f0 ≠ 6) (hb : opK t.f0) (hd : 32 ≤ d) :
    Calls Tryd.prog 55 #[.pointer (some ⟨g, 0, none⟩)] w fun e w' => e = boom t.f1 13 ∧ Below w0.heap.size w0 w' := by
  obtain ⟨A, c, HS, HC, hc⟩ := hS
  obtain ⟨bb, oo, ss, rfl, x0, x1, x2, x3, x4⟩ := head_T28 HC
  rw [List.length_cons] at hc HC
  have hb0 : w.cell? ⟨g, 0, none⟩ = some (.slice (some ⟨bb, oo, ss⟩) (r.length + 1) c) := (HS.cell 0).trans rfl
  have hb2 : w.cell? ⟨g, 2, none⟩ = some (.int .i64 d) := (HS.cell 2).trans rfl
  have hgw : g < w.heap.size := HS.lt
  have hm := Kd.C_max HC
  replace x0 := HS.old x0
  replace x1 := HS.old x1
  replace x2 := HS.old x2
  replace x3 := HS.old x3
  replace x4 := HS.old x4
  have hads := World.block_lt_of_cell? _ _ x1
  replace HS := Aside0.mk HS
  clear HC
  have hlen : (0 : Int) < ((r.length + 1 : Nat) : Int) := by omega
  have hlen' : 0 < r.length + 1 := by omega
  have h6' : (t.f0 != 6) = true := by simp [hk]
  have hbv : opB t.f0 = true := (opB_iff _).2 hb
  have hd' : decide (d < 32) = false := decide_eq_false (by omega)
  clear hk hb
  go_enter Tryd.func55, Tryd.ntmps55
  go_wp2
  go_quiet (first | (go_at_call 33; refine (must_ok _ _ _).mono ?_; rintro e w' ⟨rfl, rfl⟩; exact ⟨rfl, _, rfl⟩))
  go_wp2
  refine wp_region_still_tail 13 (by kernel_rfl) (by kernel_rfl) ?_
  simp only [List.take_succ_cons, List.take_zero, List.drop_succ_cons, List.drop_zero]
  change wpStill _ _ (World.drew _) (fun a' => wpList _ _ _ _ a' (World.drew _)) _ _
  repeat (refine wpStill_step (fun K hK => ?_); go_simp; first | (refine ⟨_, (opens_any _ _).mono (fun e w' h => ⟨h.1, h.2.symm⟩), hK _ ?_⟩; clear hK K) | (refine hK _ ?_; clear hK K))
  refine wpStill_nil ?_
  go_wp2_with (go_at_call 33; (with_reducible refine (must_no _ _ _).mono ?_); rintro e w' ⟨rfl, rfl⟩)
  exact ⟨rfl, rfl, by repeat (first | exact HS.out.bel | apply below_alloc | apply pw_below_drewN | apply below_drew1)⟩
set_option maxHeartbeats 1000000 in
set_option maxRecDepth 100000 in
theorem pnode.leaf (g : Nat) (t : S76) (r : List S76) (n d : Int) (w0 w : World) (hS : PSt w0 w g (t :: r) n d w) (hb : ¬ opK t.f0) (hn0 : 0 ≤ n) (hn : n < 4096) :
    Calls Tryd.prog 55 #[.pointer (some ⟨g, 0, none⟩)] w fun e w' => e = .returned (.agg #[.int .i64 t.f0, .int .i64 t.f1, .string t.f2, .string t.f3, .bool t.f4, .bool false, .slice none 0 0, .slice none 0 0]) ∧ PSt w0 w g r (n + 1) d w' := by
  obtain ⟨A, c, HS, HC, hc⟩ := hS
  obtain ⟨bb, oo, ss, rfl, x0, x1, x2, x3, x4⟩ := head_T28 HC
  rw [List.length_cons] at hc HC
  have hCt := Aside0.mk (cutT_C (by rw [List.length_cons]; exact HC) (by rw [List.length_cons]; exact hc) : Kd.C k76 w0 (cutT (some ⟨bb, oo, ss⟩) c) r.length r)
  have hw1 := cutT1 (some ⟨bb, oo, ss⟩) (r.length + 1) c (by omega)
  simp only [Nat.add_sub_cancel] at hw1
  have hb0 : w.cell? ⟨g, 0, none⟩ = some (.slice (some ⟨bb, oo, ss⟩) (r.length + 1) c) := (HS.cell 0).trans rfl
  have hb1 : w.cell? ⟨g, 1, none⟩ = some (.int .i64 n) := (HS.cell 1).trans rfl
  have hf0 := HS.frozen 0
  have hf1 := HS.frozen 1
  have hgw : g < w.heap.size := HS.lt
  have hm := Kd.C_max HC
  replace x0 := HS.old x0
  replace x1 := HS.old x1
  replace x2 := HS.old x2
  replace x3 := HS.old x3
  replace x4 := HS.old x4
  have hads := World.block_lt_of_cell? _ _ x1
  replace HS := Aside0.mk HS
  clear HC
  have hlen : (0 : Int) < ((r.length + 1 : Nat) : Int) := by omega
  have hlen' : 0 < r.length + 1 := by omega
  have hbv : opB t.f0 = false := by rw [← Bool.not_eq_true, opB_iff]; exact hb
  have h6' : (t.f0 != 6) = true := by rw [bne_iff_ne]; exact fun e => hb (.inr (.inr e))
  have hn1 : decide (n < 4096) = true := decide_eq_true hn
  have hnw : IntKind.i64.wrap (n + 1) = n + 1 := by rw [IntKind.wrap_i64]; omega
  have hc1 := Aside0.mk (show r.length ≤ c - 1 by omega)
  clear hb hn hn0
  go_enter Tryd.func55, Tryd.ntmps55
  go_wp2
  go_quiet (first | (go_at_call 33; refine (must_ok _ _ _).mono ?_; rintro e w' ⟨rfl, rfl⟩; exact ⟨rfl, _, rfl⟩))
  go_wp2
  refine wp_region_still_tail 13 (by kernel_rfl) (by kernel_rfl) ?_
  simp only [List.take_succ_cons, List.take_zero, List.drop_succ_cons, List.drop_zero]
  change wpStill _ _ (World.drew _) (fun a' => wpList _ _ _ _ a' (World.drew _)) _ _
  repeat (refine wpStill_step (fun K hK => ?_); go_simp; first | (refine ⟨_, (opens_any _ _).mono (fun e w' h => ⟨h.1, h.2.symm⟩), hK _ ?_⟩; clear hK K) | (refine hK _ ?_; clear hK K))
  refine wpStill_nil ?_
  go_wp2_with (go_at_call 33; (with_reducible refine (must_ok _ _ _).mono ?_); rintro e w' ⟨rfl, rfl⟩)
  refine wp_region_still_tail 7 (by kernel_rfl) (by kernel_rfl) ?_
  simp only [List.take_succ_cons, List.take_zero, List.drop_succ_cons, List.drop_zero]
  change wpStill _ _ (World.drew _) (fun a' => wpList _ _ _ _ a' (World.drew _)) _ _
  repeat (refine wpStill_step (fun K hK => ?_); go_simp; first | (refine ⟨_, (opens_any _ _).mono (fun e w' h => ⟨h.1, h.2.symm⟩), hK _ ?_⟩; clear hK K) | (refine hK _ ?_; clear hK K))
  refine wpStill_nil ?_
  go_wp2_with (first | (go_at_call 33; (with_reducible refine (must_ok _ _ _).mono ?_); rintro e w' ⟨rfl, rfl⟩) | (go_at_call 78; refine (opens_any _ _).mono ?_; rintro e w' ⟨rfl, rfl⟩))
  refine bodyPost_ret (results_cell_row rfl _ _ w.heap.size 78 #[.int .i64 t.f0, .int .i64 t.f1, .string t.f2, .string t.f3, .bool t.f4, .bool false, .slice none 0 0, .slice none 0 0] (0, 0) _ rfl ?_ Tryd.underlying78 rfl (by kernel_rfl)) rfl ?_
  · refine blk_alloc ?_ _
    refine blk_set8 (cs := #[.int .i64 0, .int .i64 0, .string ⟨#[]⟩, .string ⟨#[]⟩, .bool false, .bool false, .slice none 0 0, .slice none 0 0]) ?_ rfl _ _ _ _ _ _ _ _
    refine blk_far' ?_ (Nat.ne_of_gt hgw) _
    refine blk_far' ?_ (Nat.ne_of_gt hgw) _
    refine blk_drewN ?_ _
    refine blk_alloc ?_ _
    exact blk_new _ _
  · refine ⟨rfl, cutT (some ⟨bb, oo, ss⟩) c, c - 1, ?_, hCt.out, hc1.out⟩
    have h1 := ((HS.out.alloc (.cells #[.int .i64 0, .int .i64 0, .string ⟨#[]⟩, .string ⟨#[]⟩, .bool false, .bool false, .slice none 0 0, .slice none 0 0] 78)).alloc (.cells #[.int .i64 t.f0, .int .i64 t.f1, .string t.f2, .string t.f3, .bool t.f4] 76)).drewN (nq + 1 + 1)
    have h2 := ((h1.set 1 (.int .i64 (n + 1))).set 0 (.slice (cutT (some ⟨bb, oo, ss⟩) c) r.length (c - 1))).cast (cs' := stP (cutT (some ⟨bb, oo, ss⟩) c) (c - 1) r (n + 1) d) rfl
    have hle := Nat.le_refl w.heap.size
    have hne := Nat.ne_of_lt hgw
    refine Stp.alloc ?_ _
    exact (((((((h2.far' hle hne _).far' hle hne _).far' hle hne _).far' hle hne _).far' hle hne _).far' hle hne _).far' hle hne _).far' hle hne _
set_option maxHeartbeats 1000000 in
set_option maxRecDepth 100000 in
theorem pnode.blk (k : Nat) (HBk : pblk.Con k) (g : Nat) (t : S76) (r : List S76) (n d : Int) (res : PA S78) (w0 w : World) (hS : PSt w0 w g (t :: r) n d w) (hb : opK t.f0) (h6 : t.f0 = 6 → d = 0) (hd0 : 0 ≤ d) (hd : d < 32) (hn0 : 0 ≤ n) (hn : n < 4096) (h : pblk k t r (n + 1) d = some res) :
    Calls Tryd.prog 55 #[.pointer (some ⟨g, 0, none⟩)] w fun e w' => PPost w0 w g d (fun e x w' => ∃ v6 v7 : Value, e = .returned (.agg #[.int .i64 x.f0, .int .i64 x.f1, .string x.f2, .string x.f3, .bool x.f4, .bool x.f5, v6, v7]) ∧ Kd.R k78 78 w' w.heap.size (fun _ => True) v6 x.f6 ∧ Kd.R k78 78 w' w.heap.size (fun _ => True) v7 x.f7) res e w' := by
  replace HBk := Aside0.mk HBk
  replace h := Aside0.mk h
  obtain ⟨A, c, HS, HC, hc⟩ := hS
  obtain ⟨bb, oo, ss, rfl, x0, x1, x2, x3, x4⟩ := head_T28 HC
  rw [List.length_cons] at hc HC
  have hCt := Aside0.mk (cutT_C (by rw [List.length_cons]; exact HC) (by rw [List.length_cons]; exact hc) : Kd.C k76 w0 (cutT (some ⟨bb, oo, ss⟩) c) r.length r)
  have hw1 := cutT1 (some ⟨bb, oo, ss⟩) (r.length + 1) c (by omega)
  simp only [Nat.add_sub_cancel] at hw1
  have hb0 : w.cell? ⟨g, 0, none⟩ = some (.slice (some ⟨bb, oo, ss⟩) (r.length + 1) c) := (HS.cell 0).trans rfl
  have hb2 : w.cell? ⟨g, 2, none⟩ = some (.int .i64 d) := (HS.cell 2).trans rfl
  have hb1 : w.cell? ⟨g, 1, none⟩ = some (.int .i64 n) := (HS.cell 1).trans rfl
  have hf0 := HS.frozen 0
  have hf1 := HS.frozen 1
  have hgw : g < w.heap.size := HS.lt
  have hm := Kd.C_max HC
  replace x0 := HS.old x0
  replace x1 := HS.old x1
  replace x2 := HS.old x2
  replace x3 := HS.old x3
  replace x4 := HS.old x4
  have hads := World.block_lt_of_cell? _ _ x1
  replace HS := Aside0.mk HS
  clear HC
  have hlen : (0 : Int) < ((r.length + 1 : Nat) : Int) := by omega
  have hlen' : 0 < r.length + 1 := by omega
  have hbv : opB t.f0 = true := (opB_iff _).2 hb
  have hdl : decide (d < 32) = true := decide_eq_true hd
  have hd1 := Aside0.mk (show 0 ≤ d ∧ d ≤ 100000 by omega)
  have h4 : ((t.f0 != 6) = true ∧ True) ∨ ((t.f0 != 6) = false ∧ (d == 0) = true) := by
    by_cases e6 : t.f0 = 6
    · exact .inr ⟨by simp [e6], by simp [h6 e6]⟩
    · exact .inl ⟨by simp [e6], trivial⟩
  have hn1 : decide (n < 4096) = true := decide_eq_true hn
  have hnw : IntKind.i64.wrap (n + 1) = n + 1 := by rw [IntKind.wrap_i64]; omega
  have hc1 := Aside0.mk (show r.length ≤ c - 1 by omega)
  clear hb hn hn0 h6 hd hd0
  rcases h4 with ⟨h6', h0'⟩ | ⟨h6', h0'⟩
  all_goals
    go_enter Tryd.func55, Tryd.ntmps55
    go_wp2
    go_quiet (first | (go_at_call 33; refine (must_ok _ _ _).mono ?_; rintro e w' ⟨rfl, rfl⟩; exact ⟨rfl, _, rfl⟩))
    go_wp2
    refine wp_region_still_tail 13 (by kernel_rfl) (by kernel_rfl) ?_
    simp only [List.take_succ_cons, List.take_zero, List.drop_succ_cons, List.drop_zero]
    change wpStill _ _ (World.drew _) (fun a' => wpList _ _ _ _ a' (World.drew _)) _ _
    repeat (refine wpStill_step (fun K hK => ?_); go_simp; first | (refine ⟨_, (opens_any _ _).mono (fun e w' h => ⟨h.1, h.2.symm⟩), hK _ ?_⟩; clear hK K) | (refine hK _ ?_; clear hK K))
    refine wpStill_nil ?_
    go_wp2_with (go_at_call 33; (with_reducible refine (must_ok _ _ _).mono ?_); rintro e w' ⟨rfl, rfl⟩)
    refine wp_region_still_tail 7 (by kernel_rfl) (by kernel_rfl) ?_
    simp only [List.take_succ_cons, List.take_zero, List.drop_succ_cons, List.drop_zero]
    change wpStill _ _ (World.drew _) (fun a' => wpList _ _ _ _ a' (World.drew _)) _ _
    repeat (refine wpStill_step (fun K hK => ?_); go_simp; first | (refine ⟨_, (opens_any _ _).mono (fun e w' h => ⟨h.1, h.2.symm⟩), hK _ ?_⟩; clear hK K) | (refine hK _ ?_; clear hK K))
    refine wpStill_nil ?_
    go_wp2_with (first | (go_at_call 33; (with_reducible refine (must_ok _ _ _).mono ?_); rintro e w' ⟨rfl, rfl⟩) | (go_at_call 78; refine (opens_any _ _).mono ?_; rintro e w' ⟨rfl, rfl⟩) | fail)
    clear x0 x1 x2 x3 x4 hb0 hb1 hb2 hf0 hf1 hw1 hlen hlen' hm hads hn1 hnw hdl hbv
    have hle := Nat.le_refl w.heap.size
    have hne := Nat.ne_of_lt hgw
    have hret0 : ((((((w.alloc (.cells #[.int .i64 0, .int .i64 0, .string ⟨#[]⟩, .string ⟨#[]⟩, .bool false, .bool false, .slice none 0 0, .slice none 0 0] 78)).alloc (.cells #[.int .i64 t.f0, .int .i64 t.f1, .string t.f2, .string t.f3, .bool t.f4] 76)).drewN (nq + 1 + 1)).setCell ⟨g, 1, none⟩ (.int .i64 (n + 1))).setCell ⟨g, 0, none⟩ (.slice (cutT (some ⟨bb, oo, ss⟩) c) r.length (c - 1))).alloc (.cells #[.int .i64 t.f0, .int .i64 t.f1, .string t.f2, .string t.f3, .bool t.f4, .bool false, .slice none 0 0, .slice none 0 0] 78)).heap[w.heap.size]? = some (.cells #[.int .i64 0, .int .i64 0, .string ⟨#[]⟩, .string ⟨#[]⟩, .bool false, .bool false, .slice none 0 0, .slice none 0 0] 78 (0, 0)) := by
      refine blk_alloc ?_ _
      refine blk_far' ?_ (Nat.ne_of_gt hgw) _
      refine blk_far' ?_ (Nat.ne_of_gt hgw) _
      refine blk_drewN ?_ _
      refine blk_alloc ?_ _
      exact blk_new _ _
    replace hret0 := Aside0.mk hret0
    refine (HBk.out g (w.heap.size + 1 + 1) t r (n + 1) d res w0 w _ ?_ ?_ (by omega) (by omega) hgw hd1.out h.out).mono ?_
    · refine ⟨cutT (some ⟨bb, oo, ss⟩) c, c - 1, Stp.alloc ?_ _, hCt.out, hc1.out⟩
      have h1 := ((HS.out.alloc (.cells #[.int .i64 0, .int .i64 0, .string ⟨#[]⟩, .string ⟨#[]⟩, .bool false, .bool false, .slice none 0 0, .slice none 0 0] 78)).alloc (.cells #[.int .i64 t.f0, .int .i64 t.f1, .string t.f2, .string t.f3, .bool t.f4] 76)).drewN (nq + 1 + 1)
      exact ((h1.set 1 (.int .i64 (n + 1))).set 0 (.slice (cutT (some ⟨bb, oo, ss⟩) c) r.length (c - 1))).cast (cs' := stP (cutT (some ⟨bb, oo, ss⟩) c) (c - 1) r (n + 1) d) rfl
    · exact blk_new' (by simp)
    intro e w2 hP
    cases res with
    | error e1 =>
      obtain ⟨at_, er⟩ := e1
      obtain ⟨rfl, hbe⟩ := hP
      clear hret0
      go_wp2
      exact ⟨rfl, rfl, hbe⟩
    | ok q =>
      obtain ⟨x, l2, n2⟩ := q
      obtain ⟨rfl, HS2, ⟨v6, v7, HB, R6, R7⟩, hkeep⟩ := hP
      have HR := hkeep _ _ hret0.out (Nat.ne_of_gt hgw) (by omega)
      clear hkeep hret0
      obtain ⟨A6, c6, rfl⟩ := Kd.R_slice R6
      obtain ⟨A7, c7, rfl⟩ := Kd.R_slice R7
      have hlt2 : w.heap.size < ((((((w.alloc (.cells #[.int .i64 0, .int .i64 0, .string ⟨#[]⟩, .string ⟨#[]⟩, .bool false, .bool false, .slice none 0 0, .slice none 0 0] 78)).alloc (.cells #[.int .i64 t.f0, .int .i64 t.f1, .string t.f2, .string t.f3, .bool t.f4] 76)).drewN (nq + 1 + 1)).setCell ⟨g, 1, none⟩ (.int .i64 (n + 1))).setCell ⟨g, 0, none⟩ (.slice (cutT (some ⟨bb, oo, ss⟩) c) r.length (c - 1))).alloc (.cells #[.int .i64 t.f0, .int .i64 t.f1, .string t.f2, .string t.f3, .bool t.f4, .bool false, .slice none 0 0, .slice none 0 0] 78)).heap.size := by simp; omega
      have R6' := Aside0.mk (Kd.R_lower (R_farB (R_farB (R_farB (R_farB (R_farB (R_farB (R_farB (R_farB R6 (j := 0) hlt2 (.int .i64 x.f0)) (j := 1) hlt2 (.int .i64 x.f1)) (j := 2) hlt2 (.string x.f2)) (j := 3) hlt2 (.string x.f3)) (j := 4) hlt2 (.bool x.f4)) (j := 5) hlt2 (.bool x.f5)) (j := 6) hlt2 (.slice A6 x.f6.length c6)) (j := 7) hlt2 (.slice A7 x.f7.length c7)) (Nat.le_of_lt hlt2))
      have R7' := Aside0.mk (Kd.R_lower (R_farB (R_farB (R_farB (R_farB (R_farB (R_farB (R_farB (R_farB R7 (j := 0) hlt2 (.int .i64 x.f0)) (j := 1) hlt2 (.int .i64 x.f1)) (j := 2) hlt2 (.string x.f2)) (j := 3) hlt2 (.string x.f3)) (j := 4) hlt2 (.bool x.f4)) (j := 5) hlt2 (.bool x.f5)) (j := 6) hlt2 (.slice A6 x.f6.length c6)) (j := 7) hlt2 (.slice A7 x.f7.length c7)) (Nat.le_of_lt hlt2))
      clear R6 R7 hlt2
      have c0 : w2.cell? ⟨w.heap.size + 1 + 1, 0, none⟩ = some (.int .i64 x.f0) := (blk_cell HB 0).trans rfl
      have c1 : w2.cell? ⟨w.heap.size + 1 + 1, 1, none⟩ = some (.int .i64 x.f1) := (blk_cell HB 1).trans rfl
      have c2 : w2.cell? ⟨w.heap.size + 1 + 1, 2, none⟩ = some (.string x.f2) := (blk_cell HB 2).trans rfl
      have c3 : w2.cell? ⟨w.heap.size + 1 + 1, 3, none⟩ = some (.string x.f3) := (blk_cell HB 3).trans rfl
      have c4 : w2.cell? ⟨w.heap.size + 1 + 1, 4, none⟩ = some (.bool x.f4) := (blk_cell HB 4).trans rfl
      have c5 : w2.cell? ⟨w.heap.size + 1 + 1, 5, none⟩ = some (.bool x.f5) := (blk_cell HB 5).trans rfl
      have c6' : w2.cell? ⟨w.heap.size + 1 + 1, 6, none⟩ = some (.slice A6 x.f6.length c6) := (blk_cell HB 6).trans rfl
      have c7' : w2.cell? ⟨w.heap.size + 1 + 1, 7, none⟩ = some (.slice A7 x.f7.length c7) := (blk_cell HB 7).trans rfl
      have y0 : w2.cell? ⟨w.heap.size, 0, none⟩ = some (.int .i64 0) := (blk_cell HR 0).trans rfl
      have y1 : w2.cell? ⟨w.heap.size, 1, none⟩ = some (.int .i64 0) := (blk_cell HR 1).trans rfl
      have y2 : w2.cell? ⟨w.heap.size, 2, none⟩ = some (.string ⟨#[]⟩) := (blk_cell HR 2).trans rfl
      have y3 : w2.cell? ⟨w.heap.size, 3, none⟩ = some (.string ⟨#[]⟩) := (blk_cell HR 3).trans rfl
      have y4 : w2.cell? ⟨w.heap.size, 4, none⟩ = some (.bool false) := (blk_cell HR 4).trans rfl
      have y5 : w2.cell? ⟨w.heap.size, 5, none⟩ = some (.bool false) := (blk_cell HR 5).trans rfl
      have y6 : w2.cell? ⟨w.heap.size, 6, none⟩ = some (.slice none 0 0) := (blk_cell HR 6).trans rfl
      have y7 : w2.cell? ⟨w.heap.size, 7, none⟩ = some (.slice none 0 0) := (blk_cell HR 7).trans rfl
      have z0 := blk_frozen HR 0
      have z1 := blk_frozen HR 1
      have z2 := blk_frozen HR 2
      have z3 := blk_frozen HR 3
      have z4 := blk_frozen HR 4
      have z5 := blk_frozen HR 5
      have z6 := blk_frozen HR 6
      have z7 := blk_frozen HR 7
      replace HR := Aside0.mk HR
      replace HS2 := Aside0.mk HS2
      clear HB HS
      go_wp2
      refine bodyPost_ret (results_cell_row rfl _ _ w.heap.size 78 #[.int .i64 x.f0, .int .i64 x.f1, .string x.f2, .string x.f3, .bool x.f4, .bool x.f5, .slice A6 x.f6.length c6, .slice A7 x.f7.length c7] (0, 0) _ rfl ?_ Tryd.underlying78 rfl (by kernel_rfl)) rfl ?_
      · exact blk_set8 HR.out rfl _ _ _ _ _ _ _ _
      · obtain ⟨A', c', S2, HC2, hc2⟩ := HS2.out
        exact ⟨⟨_, _, rfl, R6'.out, R7'.out⟩, A', c', (((((((S2.far' hle hne _).far' hle hne _).far' hle hne _).far' hle hne _).far' hle hne _).far' hle hne _).far' hle hne _).far' hle hne _, HC2, hc2⟩
set_option maxHeartbeats 4000000 in
set_option maxRecDepth 100000 in
theorem pnode.step (k : Nat) (ihb : ∀ m, m < k → pblk.Con m) : pnode.Con k := by
  intro g t r n d res w0 w hS h
  have hS0 := Aside0.mk hS
  obtain ⟨A, c, HS, HC, hc⟩ := hS
  have hgw : g < w.heap.size := HS.lt
  cases k with
  | zero => exact absurd h (by simp [pnode])
  | succ k =>
  have HBk := Aside0.mk (ihb k (by omega)); clear ihb
  rw [pnode_eq] at h
  by_cases hi : 0 ≤ n ∧ 0 ≤ d
  case neg => rw [if_neg hi] at h; cases h
  rw [if_pos hi] at h
  have H := Aside0.mk h; clear h
  obtain ⟨hn0, hd0⟩ := hi
  obtain ⟨bb, oo, ss, rfl, x0, x1, x2, x3, x4⟩ := head_T28 HC
  rw [List.length_cons] at hc HC
  have hCt := Aside0.mk (cutT_C (by rw [List.length_cons]; exact HC) (by rw [List.length_cons]; exact hc) : Kd.C k76 w0 (cutT (some ⟨bb, oo, ss⟩) c) r.length r)
  have hw1 := cutT1 (some ⟨bb, oo, ss⟩) (r.length + 1) c (by omega)
  simp only [Nat.add_sub_cancel] at hw1
  have hb0 : w.cell? ⟨g, 0, none⟩ = some (.slice (some ⟨bb, oo, ss⟩) (r.length + 1) c) := (HS.cell 0).trans rfl
  have hb1 : w.cell? ⟨g, 1, none⟩ = some (.int .i64 n) := (HS.cell 1).trans rfl
  have hb2 : w.cell? ⟨g, 2, none⟩ = some (.int .i64 d) := (HS.cell 2).trans rfl
  have hf0 := HS.frozen 0
  have hf1 := HS.frozen 1
  have hm := Kd.C_max HC
  replace x0 := HS.old x0
  replace x1 := HS.old x1
  replace x2 := HS.old x2
  replace x3 := HS.old x3
  replace x4 := HS.old x4
  have hads := World.block_lt_of_cell? _ _ x1
  replace HS := Aside0.mk HS
  clear HC
  have hlen : (0 : Int) < ((r.length + 1 : Nat) : Int) := by omega
  have hlen' : 0 < r.length + 1 := by omega
  by_cases h6 : t.f0 = 6 ∧ d > 0
  · have H2 := H.out; clear H
    rw [if_pos h6] at H2
    cases H2
    have h6' : (t.f0 != 6) = false := by simp [h6.1]
    have hd' : (d == 0) = false := by rw [beq_eq_false_iff_ne]; omega
    clear h6 hCt hw1
    go_enter Tryd.func55, Tryd.ntmps55
    go_wp2
    go_region_dies
    all_goals
      go_wp2_with (go_at_call 33; (with_reducible refine (must_no _ _ _).mono ?_); rintro e w' ⟨rfl, rfl⟩)
      exact ⟨rfl, rfl, by repeat (first | exact HS.out.bel | apply below_alloc | apply pw_below_drewN | apply below_drew1)⟩
  rw [if_neg h6] at H
  by_cases hbd : opK t.f0 ∧ d ≥ 32
  · have H2 := H.out; clear H
    rw [if_pos hbd] at H2
    cases H2
    exact pnode.deep g t r n d w0 w hS0.out (fun e => h6 ⟨e, by have := hbd.2; omega⟩) hbd.1 hbd.2
  rw [if_neg hbd] at H
  have h4 : ((t.f0 != 6) = false ∧ opB t.f0 = true ∧ (d == 0) = true ∧ d < 32) ∨ ((t.f0 != 6) = true ∧ ((opB t.f0 = true ∧ d < 32) ∨ opB t.f0 = false)) := by
    by_cases e6 : t.f0 = 6
    · have hd0 : ¬ d > 0 := fun hd => h6 ⟨e6, hd⟩
      exact .inl ⟨by simp [e6], (opB_iff _).2 (.inr (.inr e6)), by rw [beq_iff_eq]; omega, by omega⟩
    · refine .inr ⟨by simp [e6], ?_⟩
      by_cases eb : opK t.f0
      · refine .inl ⟨(opB_iff _).2 eb, ?_⟩
        rcases Int.lt_or_le d 32 with h | h
        · exact h
        · exact absurd ⟨eb, h⟩ hbd
      · refine .inr ?_
        rw [← Bool.not_eq_true, opB_iff]; exact eb
  have h6' := h6
  have hbd' := hbd
  clear h6 hbd
  by_cases hn : n ≥ 4096
  · have H2 := H.out; clear H
    rw [if_pos hn] at H2
    cases H2
    have hn' : decide (n < 4096) = false := decide_eq_false (by omega)
    clear hn hCt hw1 h6' hbd'
    rcases h4 with ⟨e6, eb, ed, ed2⟩ | ⟨e6, ⟨eb, ed2⟩ | eb⟩
    all_goals
      go_enter Tryd.func55, Tryd.ntmps55
      go_wp2
      go_quiet (first | (go_at_call 33; refine (must_ok _ _ _).mono ?_; rintro e w' ⟨rfl, rfl⟩; exact ⟨rfl, _, rfl⟩))
      go_wp2
      go_quiet (first | (go_at_call 78; refine (opens_any _ _).mono ?_; rintro e w' ⟨rfl, rfl⟩; exact ⟨rfl, _, rfl⟩) | (go_at_call 33; refine (must_ok _ _ _).mono ?_; rintro e w' ⟨rfl, rfl⟩; exact ⟨rfl, _, rfl⟩))
      go_wp2
      go_region_dies
      all_goals
        go_wp2_with (go_at_call 33; (with_reducible refine (must_no _ _ _).mono ?_); rintro e w' ⟨rfl, rfl⟩)
        exact ⟨rfl, rfl, by repeat (first | exact HS.out.bel | apply below_alloc | apply pw_below_drewN | apply below_drew1)⟩
  rw [if_neg hn] at H
  clear h4
  by_cases eb : opK t.f0
  case neg =>
    rw [if_neg eb] at H
    have H2 := H.out; clear H
    cases H2
    exact (pnode.leaf g t r n d w0 w hS0.out eb hn0 (by omega)).mono fun e w' h => ⟨⟨_, _, h.1, Kd.R_nil _ _ _ _ _, Kd.R_nil _ _ _ _ _⟩, h.2⟩
  rw [if_pos eb] at H
  exact pnode.blk k HBk.out g t r n d res w0 w hS0.out eb (fun e => Int.le_antisymm (Int.not_lt.1 fun h => h6' ⟨e, h⟩) hd0) hd0 (Int.not_le.1 fun h => hbd' ⟨eb, h⟩) hn0 (by omega) H.out
end Go.Proofs.YtkpnfejfbmandaaDoor.Px

/- Package parse: the closure that recovers, Parse. -/
namespace Go.Proofs.YtkpnfejfbmandaaDoor.Px
open Go.RowKit Go.Proofs.YtkpnfejfbmandaaDoorW.PrintWords Go.Proofs.YtkpnfejfbmandaaDoorW.PrintLast Go.Proofs.YtkpnfejfbmandaaDoorW.PrintMore
set_option linter.unusedVariables false
set_option linter.unusedSimpArgs false
theorem parser.all (k : Nat) : plist.Con k ∧ pnode.Con k ∧ pblk.Con k := by
  induction k using Nat.strongRecOn with
  | _ k ih =>
    have hl := plist.step k (fun m h => (ih m h).2.1)
    exact ⟨hl, pnode.step k (fun m h => (ih m h).2.2), pblk.step k hl⟩
theorem frame42 (p0 p1 p2 i t g b q : Value) : #[p0, p1, p2] ++ (((((((Array.replicate 12 undef).setIfInBounds 3 i).setIfInBounds 4 t).setIfInBounds 2 t).setIfInBounds 5 g).setIfInBounds 6 b).setIfInBounds 0 q).setIfInBounds 1 b = #[p0, p1, p2, q, b, t, i, t, g, b, undef, undef, undef, undef, undef] := by
  apply Array.ext'
  simp [Array.toList_replicate, List.replicate]
set_option maxHeartbeats 4000000 in
set_option maxRecDepth 100000 in
theorem catch_boom (b0 b1 b2 : Nat) (at_ er a1 a2 : Int) (v0 : Value) (older : List PanicEntry) (w : World)
    (h0 : w.cell? ⟨b0, 0, none⟩ = some v0) (h1 : w.cell? ⟨b1, 0, none⟩ = some (.int .i64 a1)) (h2 : w.cell? ⟨b2, 0, none⟩ = some (.int .i64 a2))
    (z0 : w.frozen? ⟨b0, 0, none⟩ = false) (z1 : w.frozen? ⟨b1, 0, none⟩ = false) (z2 : w.frozen? ⟨b2, 0, none⟩ = false)
    (l0 : b0 < w.heap.size) (l1 : b1 < w.heap.size) (l2 : b2 < w.heap.size) (n01 : b0 ≠ b1) (n02 : b0 ≠ b2) (n12 : b1 ≠ b2) :
    CallsD Tryd.prog 31 #[.pointer (some ⟨b0, 0, none⟩), .pointer (some ⟨b1, 0, none⟩), .pointer (some ⟨b2, 0, none⟩)] (.panicking ({ v := .iface 68 (.agg #[.int .i64 at_, .int .i64 er]), recovered := false } :: older)) w fun e u' w' =>
      e = .returned (.tuple #[]) ∧ u' = .panicking ({ v := .iface 68 (.agg #[.int .i64 at_, .int .i64 er]), recovered := true } :: older) ∧ w' = ((((w.setCell ⟨b0, 0, none⟩ (.slice none 0 0)).setCell ⟨b1, 0, none⟩ (.int .i64 at_)).setCell ⟨b2, 0, none⟩ (.int .i64 er)).alloc (.cells #[.int .i64 at_, .int .i64 er] 68)).drew := by
  have hta : ∀ (x y : Int) (W : World), (Instr.typeAssert (.iface 68 (.agg #[.int .i64 x, .int .i64 y])) 20 68 true).run Tryd.prog W = .ok (.tuple #[.agg #[.int .i64 x, .int .i64 y], .bool true]) W := fun _ _ _ => by kernel_rfl
  refine callsD_of_wpS Tryd.func31 rfl fun c₀ cs hu => ?_
  apply wpS_seq
  apply wpS_region
  simp [wpOpsS, go_sem, recoverD, hu, Tryd.ntmps31, Exit.thenS, hta]
  refine wpS_of_wp (wp_mono (Q := fun e a' w' => e = .normal ∧ a'.defers = [] ∧ w' = ((((w.setCell ⟨b0, 0, none⟩ (.slice none 0 0)).setCell ⟨b1, 0, none⟩ (.int .i64 at_)).setCell ⟨b2, 0, none⟩ (.int .i64 er)).alloc (.cells #[.int .i64 at_, .int .i64 er] 68)).drew) ?_ ?_)
  · clear hu hta
    rw [frame42]
    go_wp2
    go_region
    all_goals exact ⟨rfl, rfl, rfl⟩
  · rintro e a' w' ⟨rfl, hd, rfl⟩
    simp [hd, bodyPostS, results, Tryd.results31]
set_option maxRecDepth 100000 in
theorem catch_idle (b0 b1 b2 : Nat) (w : World) :
    CallsD Tryd.prog 31 #[.pointer (some ⟨b0, 0, none⟩), .pointer (some ⟨b1, 0, none⟩), .pointer (some ⟨b2, 0, none⟩)] .returning w fun e u' w' =>
      e = .returned (.tuple #[]) ∧ u' = .returning ∧ w' = w.alloc (.cells #[.int .i64 0, .int .i64 0] 68) := by
  have hta : ∀ (W : World), (Instr.typeAssert .nilIface 20 68 true).run Tryd.prog W = .ok (.tuple #[.agg #[.int .i64 0, .int .i64 0], .bool false]) W := fun _ => by kernel_rfl
  refine callsD_of_wpS Tryd.func31 rfl fun c₀ cs hu => ?_
  apply wpS_seq
  apply wpS_region
  simp [wpOpsS, go_sem, recoverD, hu, Tryd.ntmps31, Exit.thenS, hta]
  refine wpS_of_wp (wp_mono (Q := fun e a' w' => e = .normal ∧ a'.defers = [] ∧ w' = w.alloc (.cells #[.int .i64 0, .int .i64 0] 68)) ?_ ?_)
  · clear hta
    rw [frame42]
    go_wp2
  · rintro e a' w' ⟨rfl, hd, rfl⟩
    simp [hd, hu, bodyPostS, results, Tryd.results31]
    cases c₀
    simp_all
def parseR (s : ByteArray) : PA (List S78) → List S78 × Int × Int
  | .error (a, e) => ([], a, e)
  | .ok (out, [], _) => (out, s.size, 0)
  | .ok (_, t :: _, _) => ([], t.f1, 13)
def parse_Parse.f (k : Nat) (s : ByteArray) : Option (List S78 × Int × Int) :=
  if (lexF s).2.2 = 0 then (plist k (lexF s).1 0 0 []).map (parseR s) else some ([], (lexF s).2.1, (lexF s).2.2)
theorem plist_nil (k : Nat) (n d : Int) (out : List S78) : plist (k + 1) [] n d out = some (.ok (out, [], n)) := by rw [plist]
theorem plist_cons (k : Nat) (t : S76) (r : List S76) (n d : Int) (out : List S78) : plist (k + 1) (t :: r) n d out =
    if out.length < 100000 then
      if t.f0 = 7 ∨ t.f0 = 8 then some (.ok (out, t :: r, n))
      else match pnode k t r n d with
        | none => none
        | some (.error e) => some (.error e)
        | some (.ok (x, r', n')) => plist k r' n' d (out ++ [x])
    else none := by rw [plist]; try rfl
theorem pblk.mono {k : Nat} (h : ∀ l n d out, LeO (plist k l n d out) (plist (k + 1) l n d out)) (t : S76) (r : List S76) (n d : Int) : LeO (pblk k t r n d) (pblk (k + 1) t r n d) := by
  intro res hr
  unfold pblk at hr ⊢
  cases hp : plist k r n (d + 1) [] with
  | none => rw [hp] at hr; cases hr
  | some q =>
    rw [hp] at hr
    rw [h _ _ _ _ _ hp]
    cases q with
    | error e => exact hr
    | ok q =>
      obtain ⟨body, l1, n1⟩ := q
      cases l1 with
      | nil => exact hr
      | cons t1 r2 =>
        dsimp only at hr ⊢
        by_cases h7 : t1.f0 = 7
        · rw [if_pos h7] at hr ⊢
          by_cases h2 : t.f0 = 2
          · rw [if_pos h2] at hr ⊢
            cases hp2 : plist k r2 n1 (d + 1) [] with
            | none => rw [hp2] at hr; cases hr
            | some q =>
              rw [hp2] at hr
              rw [h _ _ _ _ _ hp2]
              exact hr
          · rw [if_neg h2] at hr ⊢; exact hr
        · rw [if_neg h7] at hr ⊢; exact hr
theorem parser.mono : ∀ k, (∀ l n d out, LeO (plist k l n d out) (plist (k + 1) l n d out)) ∧ (∀ t r n d, LeO (pnode k t r n d) (pnode (k + 1) t r n d))
  | 0 => ⟨fun l n d out r h => by simp [plist] at h, fun t r n d q h => by simp [pnode] at h⟩
  | k + 1 => by
    obtain ⟨ihl, ihn⟩ := parser.mono k
    refine ⟨?_, ?_⟩
    · intro l n d out
      cases l with
      | nil => rw [plist_nil, plist_nil]; exact LeO.refl _
      | cons t r =>
        rw [plist_cons, plist_cons]
        refine LeO.ite (LeO.ite (LeO.refl _) ?_) (LeO.refl _)
        intro q h
        cases hp : pnode k t r n d with
        | none => rw [hp] at h; cases h
        | some x =>
          rw [hp] at h
          rw [ihn _ _ _ _ _ hp]
          cases x with
          | error e => exact h
          | ok y => exact ihl _ _ _ _ _ h
    · intro t r n d
      rw [pnode_eq, pnode_eq]
      refine LeO.ite (LeO.ite (LeO.refl _) (LeO.ite (LeO.refl _) (LeO.ite (LeO.refl _) (LeO.ite ?_ (LeO.refl _))))) (LeO.refl _)
      exact pblk.mono ihl _ _ _ _
theorem res19 (tmps : Array Value) (w : World) (b0 b1 b2 : Nat) (A : Option Addr) (m c : Nat) (x y : Int)
    (h2 : tmps.getD 2 undef = .pointer (some ⟨b0, 0, none⟩)) (h3 : tmps.getD 3 undef = .pointer (some ⟨b1, 0, none⟩)) (h4 : tmps.getD 4 undef = .pointer (some ⟨b2, 0, none⟩))
    (c0 : w.cell? ⟨b0, 0, none⟩ = some (.slice A m c)) (c1 : w.cell? ⟨b1, 0, none⟩ = some (.int .i64 x)) (c2 : w.cell? ⟨b2, 0, none⟩ = some (.int .i64 y)) :
    (results Tryd.f10 tmps).run Tryd.prog w = .ok (.tuple #[.slice A m c, .int .i64 x, .int .i64 y]) w := by
  have h2' : tmps[2]?.getD undef = .pointer (some ⟨b0, 0, none⟩) := by simpa using h2
  have h3' : tmps[3]?.getD undef = .pointer (some ⟨b1, 0, none⟩) := by simpa using h3
  have h4' : tmps[4]?.getD undef = .pointer (some ⟨b2, 0, none⟩) := by simpa using h4
  simp [results, Tryd.results19, go_sem, asAddr, h2', h3', h4', c0, c1, c2]
theorem parse_Parse.mono (s : ByteArray) (k : Nat) : LeO (parse_Parse.f k s) (parse_Parse.f (k + 1) s) := LeO.ite (LeO.map _ ((parser.mono k).1 _ _ _ _)) (LeO.refl _)
set_option maxHeartbeats 4000000 in
set_option maxRecDepth 100000 in
theorem parse_Parse.calls (k : Nat) (s : ByteArray) (r1 : List S78) (r2 r3 : Int) (w : World) (hG_ : GS w) (h : parse_Parse.f k s = some (r1, r2, r3)) :
    Calls Tryd.prog 10 #[.string s] w fun e w' => ∃ v : Value, e = .returned (.tuple #[v, .int .i64 r2, .int .i64 r3]) ∧ Kd.R k78 78 w' w.heap.size (fun _ => True) v r1 ∧ Below w.heap.size w w' := by
  have HG := Aside0.mk hG_
  have H := Aside0.mk h
  clear hG_ h
  obtain ⟨l, n, er, hL⟩ : ∃ l n er, lexF s = (l, n, er) := ⟨_, _, _, rfl⟩
  have HX : lex_Lex.f s = some (l, n, er) := by unfold lex_Lex.f; rw [hL]
  replace hL := Aside0.mk hL
  replace HX := Aside0.mk HX
  have hmf : ∀ (fn : Fn) (first cap : Array Value) (w : World), (Instr.makeFunc fn first cap).run Tryd.prog w = .ok (.func fn first cap) w := fun _ _ _ _ => rfl
  go_enter_defers Tryd.func10, Tryd.ntmps10
  go_wp2_with fail
  refine (lex_Lex.calls s l n er _ (HG.out.below (below_alloc (below_alloc (below_alloc (Below.refl _ _) _) _) _)) HX.out).mono ?_
  rintro e w1 ⟨v, rfl, HR, HB⟩
  have HRs := Kd.R_slice HR
  obtain ⟨A, c, rfl⟩ := HRs
  replace HR := Aside0.mk HR
  have b0 : w1.heap[w.heap.size]? = some (.cells #[.slice none 0 0] 23 (0, 0)) := blk_below (blk_alloc (blk_alloc (blk_new _ _) _) _) HB
  have b1 : w1.heap[w.heap.size + 1]? = some (.cells #[.int .i64 0] 3 (0, 0)) := blk_below (blk_alloc (blk_new' (by simp)) _) HB
  have b2 : w1.heap[w.heap.size + 1 + 1]? = some (.cells #[.int .i64 0] 24 (0, 0)) := blk_below (blk_new' (by simp)) HB
  have l2 := blk_lt b2
  have c0 : w1.cell? ⟨w.heap.size, 0, none⟩ = some (.slice none 0 0) := (blk_cell b0 0).trans rfl
  have c1 : w1.cell? ⟨w.heap.size + 1, 0, none⟩ = some (.int .i64 0) := (blk_cell b1 0).trans rfl
  have c2 : w1.cell? ⟨w.heap.size + 1 + 1, 0, none⟩ = some (.int .i64 0) := (blk_cell b2 0).trans rfl
  have z0 := blk_frozen b0 0
  have z1 := blk_frozen b1 0
  have z2 := blk_frozen b2 0
  have HB0 := Aside0.mk b0
  clear b0 b1 b2
  replace HB := Aside0.mk (below_step (below_alloc (below_alloc (below_alloc (Below.refl w.heap.size w) _) _) _) HB)
  by_cases he : er = 0
  case neg =>
    have he' : (er != 0) = true := by rw [bne_iff_ne]; exact he
    have H2 := H.out
    unfold parse_Parse.f at H2
    rw [hL.out] at H2
    dsimp only at H2
    rw [if_neg he] at H2
    simp only [Option.some.injEq, Prod.mk.injEq] at H2
    obtain ⟨rfl, rfl, rfl⟩ := H2
    clear he hmf HR H hL HX
    go_wp2
    go_region
    all_goals
      go_wp2
      refine ⟨.tuple #[.slice none 0 0, .int .i64 n, .int .i64 er], res19 _ _ w.heap.size (w.heap.size + 1) (w.heap.size + 1 + 1) _ _ _ _ _ rfl rfl rfl (by go_simp) (by go_simp) (by go_simp; exact World.cell?_setCell_same' _ _ _ (by go_simp)), ?_⟩
      refine ⟨_, rfl, Kd.R_nil _ _ _ _ _, ?_⟩
      repeat (first | exact HB.out | apply below_drew1 | apply pw_below_drewN | apply below_alloc | (refine below_set ?_ (by omega)))
  subst he
  have hsz : s.size ≤ 65536 := by
    have h := hL.out
    unfold lexF at h
    split at h
    · simp only [Prod.mk.injEq] at h; have := h.2.2; omega
    · omega
  clear HX
  have H2 := H.out; clear H
  unfold parse_Parse.f at H2
  rw [hL.out] at H2
  dsimp only at H2
  rw [if_pos rfl] at H2
  obtain ⟨res, hp, hr⟩ := Option.map_eq_some_iff.1 H2
  clear H2
  replace hp := Aside0.mk hp
  replace hr := Aside0.mk hr
  replace hsz := Aside0.mk hsz
  clear hL
  go_wp2_with fail
  have hX : ((w1.setCell ⟨w.heap.size + 1, 0, none⟩ (.int .i64 n)).setCell ⟨w.heap.size + 1 + 1, 0, none⟩ (.int .i64 0)).heap.size = w1.heap.size := by simp
  have HX0 : ((w1.setCell ⟨w.heap.size + 1, 0, none⟩ (.int .i64 n)).setCell ⟨w.heap.size + 1 + 1, 0, none⟩ (.int .i64 0)).cell? ⟨w.heap.size, 0, none⟩ = some (.slice none 0 0) := by go_simp
  have HX1 : ((w1.setCell ⟨w.heap.size + 1, 0, none⟩ (.int .i64 n)).setCell ⟨w.heap.size + 1 + 1, 0, none⟩ (.int .i64 0)).cell? ⟨w.heap.size + 1, 0, none⟩ = some (.int .i64 n) := by go_simp
  have HX2 : ((w1.setCell ⟨w.heap.size + 1, 0, none⟩ (.int .i64 n)).setCell ⟨w.heap.size + 1 + 1, 0, none⟩ (.int .i64 0)).cell? ⟨w.heap.size + 1 + 1, 0, none⟩ = some (.int .i64 0) := by first | (go_simp; done) | exact World.cell?_setCell_same' _ _ _ (by go_simp)
  have HZ0 : ((w1.setCell ⟨w.heap.size + 1, 0, none⟩ (.int .i64 n)).setCell ⟨w.heap.size + 1 + 1, 0, none⟩ (.int .i64 0)).frozen? ⟨w.heap.size, 0, none⟩ = false := by go_simp
  have HZ1 : ((w1.setCell ⟨w.heap.size + 1, 0, none⟩ (.int .i64 n)).setCell ⟨w.heap.size + 1 + 1, 0, none⟩ (.int .i64 0)).frozen? ⟨w.heap.size + 1, 0, none⟩ = false := by go_simp
  have HZ2 : ((w1.setCell ⟨w.heap.size + 1, 0, none⟩ (.int .i64 n)).setCell ⟨w.heap.size + 1 + 1, 0, none⟩ (.int .i64 0)).frozen? ⟨w.heap.size + 1 + 1, 0, none⟩ = false := by go_simp
  replace HB0 := Aside0.mk (show ((w1.setCell ⟨w.heap.size + 1, 0, none⟩ (.int .i64 n)).setCell ⟨w.heap.size + 1 + 1, 0, none⟩ (.int .i64 0)).heap[w.heap.size]? = some (.cells #[.slice none 0 0] 23 (0, 0)) from blk_far' (blk_far' HB0.out (by omega) _) (by omega) _)
  have HBX := Aside0.mk (below_set (j := 0) (v := .int .i64 0) (below_set (j := 0) (v := .int .i64 n) HB.out (show w.heap.size ≤ w.heap.size + 1 by omega)) (show w.heap.size ≤ w.heap.size + 1 + 1 by omega))
  have hrl : w.heap.size + 1 + 1 < (((w.alloc (.cells #[.slice none 0 0] 23)).alloc (.cells #[.int .i64 0] 3)).alloc (.cells #[.int .i64 0] 24)).heap.size := by simp
  have HRX := Aside0.mk (Kd.R_reads' (R_farB (R_farB HR.out (k := w.heap.size + 1) (j := 0) (by omega) (.int .i64 n)) (j := 0) hrl (.int .i64 0)))
  clear HR HB c0 c1 c2 z0 z1 z2 hrl
  rw [← hX] at l2 ⊢
  generalize (w1.setCell ⟨w.heap.size + 1, 0, none⟩ (.int .i64 n)).setCell ⟨w.heap.size + 1 + 1, 0, none⟩ (.int .i64 0) = X at *
  clear hX
  have hSt : PSt X (X.alloc (.cells (stP A c l 0 0) 72)) X.heap.size l 0 0 (X.alloc (.cells (stP A c l 0 0) 72)) := ⟨A, c, Stp.start (blk_new _ _) (below_alloc (Below.refl _ _) _) (Nat.le_refl _), HRX.out.2.2, HRX.out.2.1⟩
  have HL := (parser.all k).1 X.heap.size l 0 0 res X (X.alloc (.cells (stP A c l 0 0) 72)) hSt hp.out
  clear hSt HRX hp
  refine HL.mono ?_
  clear HL
  cases res with
  | error q =>
    obtain ⟨at_, er⟩ := q
    rintro e w2 ⟨rfl, HB2⟩
    have H2 := hr.out; clear hr
    simp only [parseR, Prod.mk.injEq] at H2
    obtain ⟨rfl, rfl, rfl⟩ := H2
    have g0 : w2.cell? ⟨w.heap.size, 0, none⟩ = some (.slice none 0 0) := (HB2.cell (by show w.heap.size < X.heap.size; omega)).trans HX0
    have g1 : w2.cell? ⟨w.heap.size + 1, 0, none⟩ = some (.int .i64 n) := (HB2.cell (by show w.heap.size + 1 < X.heap.size; omega)).trans HX1
    have g2 : w2.cell? ⟨w.heap.size + 1 + 1, 0, none⟩ = some (.int .i64 0) := (HB2.cell (by show w.heap.size + 1 + 1 < X.heap.size; omega)).trans HX2
    have f0 : w2.frozen? ⟨w.heap.size, 0, none⟩ = false := (HB2.frozen (by show w.heap.size < X.heap.size; omega)).trans HZ0
    have f1 : w2.frozen? ⟨w.heap.size + 1, 0, none⟩ = false := (HB2.frozen (by show w.heap.size + 1 < X.heap.size; omega)).trans HZ1
    have f2 : w2.frozen? ⟨w.heap.size + 1 + 1, 0, none⟩ = false := (HB2.frozen (by show w.heap.size + 1 + 1 < X.heap.size; omega)).trans HZ2
    have hl2 : w.heap.size + 1 + 1 < w2.heap.size := Nat.lt_of_lt_of_le l2 HB2.size
    have hl1 : w.heap.size + 1 < w2.heap.size := by omega
    have hl0 : w.heap.size < w2.heap.size := by omega
    replace HB2 := Aside0.mk (below_step HBX.out HB2)
    clear HX0 HX1 HX2 HZ0 HZ1 HZ2 HBX l2 hsz
    go_wp2
    refine leaves_cons (f := 31) (args := #[.pointer (some ⟨w.heap.size, 0, none⟩), .pointer (some ⟨w.heap.size + 1, 0, none⟩), .pointer (some ⟨w.heap.size + 1 + 1, 0, none⟩)]) (by simp) (by simp [go_sem]) ?_
    refine (catch_boom w.heap.size (w.heap.size + 1) (w.heap.size + 1 + 1) at_ er n 0 _ [] _ g0 g1 g2 f0 f1 f2 (by omega) (by omega) hl2 (by omega) (by omega) (by omega)).mono ?_
    rintro e u' w'' ⟨rfl, rfl, rfl⟩
    refine ⟨.tuple #[.slice none 0 0, .int .i64 at_, .int .i64 er], res19 _ _ w.heap.size (w.heap.size + 1) (w.heap.size + 1 + 1) _ _ _ _ _ rfl rfl rfl (by go_simp) (by go_simp) (by first | (go_simp; done) | (go_simp; exact World.cell?_setCell_same' _ _ _ (by go_simp))), ?_⟩
    refine ⟨_, rfl, Kd.R_nil _ _ _ _ _, ?_⟩
    repeat (first | exact HB2.out | apply below_drew1 | apply pw_below_drewN | apply below_alloc | (refine below_set ?_ (by omega)))
  | ok q =>
    obtain ⟨out, l', n'⟩ := q
    rintro e w2 ⟨⟨v, rfl, RO⟩, A', c', S2, HC2, hc2⟩
    obtain ⟨Ao, co, rfl⟩ := Kd.R_slice RO
    have HB2 := S2.bel
    have g0 : w2.cell? ⟨w.heap.size, 0, none⟩ = some (.slice none 0 0) := (HB2.cell (by show w.heap.size < X.heap.size; omega)).trans HX0
    have g1 : w2.cell? ⟨w.heap.size + 1, 0, none⟩ = some (.int .i64 n) := (HB2.cell (by show w.heap.size + 1 < X.heap.size; omega)).trans HX1
    have g2 : w2.cell? ⟨w.heap.size + 1 + 1, 0, none⟩ = some (.int .i64 0) := (HB2.cell (by show w.heap.size + 1 + 1 < X.heap.size; omega)).trans HX2
    have f0 : w2.frozen? ⟨w.heap.size, 0, none⟩ = false := (HB2.frozen (by show w.heap.size < X.heap.size; omega)).trans HZ0
    have f1 : w2.frozen? ⟨w.heap.size + 1, 0, none⟩ = false := (HB2.frozen (by show w.heap.size + 1 < X.heap.size; omega)).trans HZ1
    have f2 : w2.frozen? ⟨w.heap.size + 1 + 1, 0, none⟩ = false := (HB2.frozen (by show w.heap.size + 1 + 1 < X.heap.size; omega)).trans HZ2
    have hl2 : w.heap.size + 1 + 1 < w2.heap.size := Nat.lt_of_lt_of_le l2 HB2.size
    have hl1 : w.heap.size + 1 < w2.heap.size := by omega
    have hl0 : w.heap.size < w2.heap.size := by omega
    have hb0 : w2.cell? ⟨X.heap.size, 0, none⟩ = some (.slice A' l'.length c') := (S2.cell 0).trans rfl
    have hlX : w.heap.size + 1 + 1 < X.heap.size := l2
    have HB3 := Aside0.mk (below_step HBX.out HB2)
    have hss : w2.heap.size = w2.heap.size := rfl
    clear HX0 HX1 HX2 HZ0 HZ1 HZ2 HBX l2 hss
    cases l' with
    | nil =>
      have H2 := hr.out; clear hr
      simp only [parseR, Prod.mk.injEq] at H2
      obtain ⟨rfl, rfl, rfl⟩ := H2
      rw [show ([] : List S76).length = 0 from rfl] at hb0
      have RO' := Aside0.mk RO
      have hsz1 := Aside0.mk hsz.out
      clear RO S2 HC2 hc2 HB2 HB0 hsz
      have hszI : (s.size : Int) ≤ 65536 := by have := hsz1.out; omega
      go_wp2
      refine leaves_cons (f := 31) (args := #[.pointer (some ⟨w.heap.size, 0, none⟩), .pointer (some ⟨w.heap.size + 1, 0, none⟩), .pointer (some ⟨w.heap.size + 1 + 1, 0, none⟩)]) (by simp) (by simp [go_sem]) ?_
      refine (catch_idle w.heap.size (w.heap.size + 1) (w.heap.size + 1 + 1) _).mono ?_
      rintro e u' w'' ⟨rfl, rfl, rfl⟩
      refine ⟨.tuple #[.slice Ao out.length co, .int .i64 s.size, .int .i64 0], res19 _ _ w.heap.size (w.heap.size + 1) (w.heap.size + 1 + 1) _ _ _ _ _ rfl rfl rfl (by go_simp) (by go_simp) (by first | (go_simp; done) | (go_simp; exact World.cell?_setCell_same' _ _ _ (by go_simp))), ?_⟩
      have hbs : w.heap.size + 1 + 1 < (X.alloc (.cells (stP A c l 0 0) 72)).heap.size := by simp; omega
      refine ⟨_, rfl, Kd.R_lower (Kd.R_alloc (R_farB (R_farB (R_farB (R_farB RO'.out (j := 0) (show w.heap.size < _ by omega) _) (j := 0) (show w.heap.size < _ by omega) _) (j := 0) (show w.heap.size + 1 < _ by omega) _) (j := 0) hbs _) _) (by omega), ?_⟩
      repeat (first | exact HB3.out | apply below_drew1 | apply pw_below_drewN | apply below_alloc | (refine below_set ?_ (by omega)))
    | cons t r =>
      obtain ⟨bb, oo, ss, rfl, x0, x1, _, _, _⟩ := head_T28 HC2
      have hbw : bb ≠ w.heap.size := by
        rintro rfl
        have h := blk_cell HB0.out (oo + 1)
        rw [x1] at h
        simp at h
      have H2 := hr.out; clear hr
      simp only [parseR, Prod.mk.injEq] at H2
      obtain ⟨rfl, rfl, rfl⟩ := H2
      replace x1 := S2.old x1
      rw [List.length_cons] at hb0
      have hlen : (0 : Int) < ((r.length + 1 : Nat) : Int) := by omega
      have hlen' : 0 < r.length + 1 := by omega
      have hm := Kd.C_max HC2
      have hbl := World.block_lt_of_cell? _ _ x1
      clear RO S2 HC2 hc2 HB2 HB0 hsz x0
      rw [List.length_cons] at hm
      go_wp2_with (go_at_call 33; (with_reducible refine (must_no _ _ _).mono ?_); rintro e w' ⟨rfl, rfl⟩)
      refine leaves_cons (f := 31) (args := #[.pointer (some ⟨w.heap.size, 0, none⟩), .pointer (some ⟨w.heap.size + 1, 0, none⟩), .pointer (some ⟨w.heap.size + 1 + 1, 0, none⟩)]) (by simp) (by simp [go_sem]) ?_
      refine (catch_boom w.heap.size (w.heap.size + 1) (w.heap.size + 1 + 1) t.f1 13 n 0 (.slice Ao out.length co) [] _ (by go_simp) (by go_simp) (by go_simp) (by go_simp) (by go_simp) (by go_simp) (by simp; omega) (by simp; omega) (by simp; omega) (by omega) (by omega) (by omega)).mono ?_
      rintro e u' w'' ⟨rfl, rfl, rfl⟩
      refine ⟨.tuple #[.slice none 0 0, .int .i64 t.f1, .int .i64 13], res19 _ _ w.heap.size (w.heap.size + 1) (w.heap.size + 1 + 1) _ _ _ _ _ rfl rfl rfl (by go_simp) (by go_simp) (by first | (go_simp; done) | (go_simp; exact World.cell?_setCell_same' _ _ _ (by go_simp))), ?_⟩
      refine ⟨_, rfl, Kd.R_nil _ _ _ _ _, ?_⟩
      repeat (first | exact HB3.out | apply below_drew1 | apply pw_below_drewN | apply below_alloc | (refine below_set ?_ (by omega)))
end Go.Proofs.YtkpnfejfbmandaaDoor.Px
