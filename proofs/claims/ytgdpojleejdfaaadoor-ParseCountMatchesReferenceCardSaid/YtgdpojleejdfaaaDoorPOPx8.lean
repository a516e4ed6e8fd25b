import Derived.Test.YtgdpojleejdfaaaDoorPOPx0
namespace Go.Proofs.YtgdpojleejdfaaaDoor.Px
open Go.RowKit Go.Proofs.YtgdpojleejdfaaaDoorW.PrintWords Go.Proofs.YtgdpojleejdfaaaDoorW.PrintLast Go.Proofs.YtgdpojleejdfaaaDoorW.PrintMore
attribute [local go_sem] max2_int min2_int max_two min_two max_three min_three max_four min_four   -- for this text's walks alone
set_option linter.unusedVariables false
set_option linter.unusedSimpArgs false
def parse_branches.f (a0_0 : Int) (a0_1 : Int) (a0_2 : ByteArray) (a0_3 : ByteArray) (a0_4 : Bool) (a0_5 : Bool) (l0_6 : List (S39)) (l0_7 : List (S39)) : Option ((List (List (S39)))) := if a0_0 = 2 then (some (([l0_6, l0_7] : List (List (S39))))) else (if a0_0 = 3 then (some (([l0_6] : List (List (S39))))) else (if a0_0 = 6 then (some (([l0_6] : List (List (S39))))) else (some ([] : List (List (S39))))))
set_option maxHeartbeats 8000000 in
set_option maxRecDepth 100000 in
theorem parse_branches.calls (a0_0 : Int) (a0_1 : Int) (a0_2 : ByteArray) (a0_3 : ByteArray) (a0_4 : Bool) (a0_5 : Bool) (P0_6_ : Nat → Prop) (A0_6 : Option Addr) (c0_6 : Nat) (l0_6 : List (S39)) (P0_7_ : Nat → Prop) (A0_7 : Option Addr) (c0_7 : Nat) (l0_7 : List (S39)) (r : List (List (S39))) (w : World) (hs0_6 : Kd.V k39 39 w w.heap.size (fun k_ => P0_6_ k_) (.slice A0_6 l0_6.length c0_6) l0_6) (hs0_7 : Kd.V k39 39 w w.heap.size (fun k_ => P0_7_ k_) (.slice A0_7 l0_7.length c0_7) l0_7) (h : parse_branches.f a0_0 a0_1 a0_2 a0_3 a0_4 a0_5 l0_6 l0_7 = some r) :
    Calls Tryd.prog 46 #[.agg #[.int .i64 a0_0, .int .i64 a0_1, .string a0_2, .string a0_3, .bool a0_4, .bool a0_5, .slice A0_6 l0_6.length c0_6, .slice A0_7 l0_7.length c0_7]] w fun e w' => ∃ v0_ : Value, e = .returned (v0_) ∧ Kd.N (Kd.slice 39 k39) 32 w' w.heap.size (fun k_ => ((P0_6_ k_ ∨ P0_7_ k_) ∨ w.heap.size ≤ k_)) v0_ r ∧ Below w.heap.size w w' := by
  have hu39 := Tryd.underlying39
  have HO0_6 := Aside0.mk (show Kd.V k39 39 w w.heap.size (fun k_ => ((P0_6_ k_ ∨ P0_7_ k_) ∨ w.heap.size ≤ k_)) (.slice A0_6 l0_6.length c0_6) l0_6 from Kd.V_mono hs0_6 (fun k_ hk => .inl (.inl hk)))
  have HO0_7 := Aside0.mk (show Kd.V k39 39 w w.heap.size (fun k_ => ((P0_6_ k_ ∨ P0_7_ k_) ∨ w.heap.size ≤ k_)) (.slice A0_7 l0_7.length c0_7) l0_7 from Kd.V_mono hs0_7 (fun k_ hk => .inl (.inr hk)))
  have HB := Aside0.mk (Below.refl w.heap.size w)
  have H : (if a0_0 = 2 then (some (([l0_6, l0_7] : List (List (S39))))) else (if a0_0 = 3 then (some (([l0_6] : List (List (S39))))) else (if a0_0 = 6 then (some (([l0_6] : List (List (S39))))) else (some ([] : List (List (S39))))))) = some r := h
  clear h
  by_cases c2 : a0_0 = 2
  · rw [if_pos c2] at H
    have c2b0 : (a0_0 == 2) = true := beq_iff_eq.mpr c2
    have c2b1 : (a0_0 != 2) = false := bne_eq_false_iff_eq.mpr c2
    clear c2
    obtain ⟨y224, hy224⟩ : ∃ y_ : List (List (S39)), y_ = (([l0_6, l0_7] : List (List (S39)))) := ⟨_, rfl⟩
    replace H : (some y224) = some r := by first | (rw [hy224]; with_reducible exact H) | (have H2_ := (Option.bind_some _ _).symm.trans H; rw [hy224]; with_reducible exact H2_) | (have H2_ := (Option.bind_some _ _).symm.trans H; with_reducible exact H2_) | with_reducible exact H | (rw [hy224]; exact H) | exact H
    have Ny224 := Aside0.mk hy224
    clear hy224
    obtain rfl := Option.some.inj H
    go_enter Tryd.func46, Tryd.ntmps46
    go_wp2_with (first | ((with_reducible refine gate_dst (N := 1) rfl ?_); refine box_event ?hg (N := 1) ?hd (cs := #[.int .i64 a0_0, .int .i64 a0_1, .string a0_2, .string a0_3, .bool a0_4, .bool a0_5, .slice A0_6 l0_6.length c0_6, .slice A0_7 l0_7.length c0_7]) (t := 39) ?hr ?_; (case hd => rfl); (case hg => rfl); (case hr => first | (go_simp; done) | (go_simp; rfl)); intro gb223 hg w3 hbox hb; have n0_ := Aside0.mk (Kd.V_below (Kd.V_elderB (by (with_reducible repeat (first | apply Kd.V_alloc | apply Kd.V_drewN | apply Kd.V_drew)); exact HO0_6.out) gb223 (Nat.le_of_eq hg.symm)) hb); have n1_ := Aside0.mk (Kd.V_below (Kd.V_elderB (by (with_reducible repeat (first | apply Kd.V_alloc | apply Kd.V_drewN | apply Kd.V_drew)); exact HO0_7.out) gb223 (Nat.le_of_eq hg.symm)) hb); have n2_ := Aside0.mk (below_step (by repeat (first | (with_reducible first | exact HB.out | apply below_alloc | apply pw_below_drewN | apply below_drew1) | exact HB.out)) hb); have n3_ := Aside0.mk (hbox); have n4_ := Aside0.mk ((by rw [hg]; exact (below_size (by repeat (first | (with_reducible first | exact HB.out | apply below_alloc | apply pw_below_drewN | apply below_drew1) | exact HB.out))) : w.heap.size ≤ gb223)); have n5_ := Aside0.mk ((by rw [hg]; exact (below_size (by repeat (first | (with_reducible first | exact HB.out | apply below_alloc | apply pw_below_drewN | apply below_drew1) | exact HB.out))) : w.heap.size ≤ gb223)); clear HO0_6; clear HO0_7; clear HB; have HO0_6 := n0_; have HO0_7 := n1_; have HB := n2_; have BK223 := n3_; have GW223 := n4_; have GE223 := n5_; clear n0_ n1_ n2_ n3_ n4_ n5_; clear hb hbox hg; have hcz4_0 : w3.cell? ⟨gb223, 0, none⟩ = some (.int .i64 a0_0) := (blk_cell BK223.out 0).trans rfl; have hcz4_1 : w3.cell? ⟨gb223, 1, none⟩ = some (.int .i64 a0_1) := (blk_cell BK223.out 1).trans rfl; have hcz4_2 : w3.cell? ⟨gb223, 2, none⟩ = some (.string a0_2) := (blk_cell BK223.out 2).trans rfl; have hcz4_3 : w3.cell? ⟨gb223, 3, none⟩ = some (.string a0_3) := (blk_cell BK223.out 3).trans rfl; have hcz4_4 : w3.cell? ⟨gb223, 4, none⟩ = some (.bool a0_4) := (blk_cell BK223.out 4).trans rfl; have hcz4_5 : w3.cell? ⟨gb223, 5, none⟩ = some (.bool a0_5) := (blk_cell BK223.out 5).trans rfl; have hcz4_6 : w3.cell? ⟨gb223, 6, none⟩ = some (.slice A0_6 l0_6.length c0_6) := (blk_cell BK223.out 6).trans rfl; have hcz4_7 : w3.cell? ⟨gb223, 7, none⟩ = some (.slice A0_7 l0_7.length c0_7) := (blk_cell BK223.out 7).trans rfl; have hfz4_0 := blk_frozen BK223.out 0; have hfz4_1 := blk_frozen BK223.out 1; have hfz4_2 := blk_frozen BK223.out 2; have hfz4_3 := blk_frozen BK223.out 3; have hfz4_4 := blk_frozen BK223.out 4; have hfz4_5 := blk_frozen BK223.out 5; have hfz4_6 := blk_frozen BK223.out 6; have hfz4_7 := blk_frozen BK223.out 7) | ((with_reducible refine gate_dst (N := 11) rfl ?_); refine Kd.N_lit (Kd.slice 39 k39) _ 32 ?hg (N' := 11) ?hd (xs := ([l0_6, l0_7] : List (List (S39)))) (inner := [.slice A0_6 l0_6.length c0_6, .slice A0_7 l0_7.length c0_7]) (ok := (fun k_ => ((P0_6_ k_ ∨ P0_7_ k_) ∨ w.heap.size ≤ k_) ∧ k_ ≠ gb223)) (okp := (fun k_ => ((P0_6_ k_ ∨ P0_7_ k_) ∨ w.heap.size ≤ k_) ∧ k_ ≠ gb223)) ?hr ?hp (fun _ hk => hk) ((show ∀ k_, w3.heap.size ≤ k_ → (fun k_ => ((P0_6_ k_ ∨ P0_7_ k_) ∨ w.heap.size ≤ k_) ∧ k_ ≠ gb223) k_ from fun k_ hk => ⟨(.inr (Nat.le_trans (below_size (by repeat (first | (with_reducible first | exact HB.out | apply below_alloc | apply pw_below_drewN | apply below_drew1 | refine below_set ?_ GE223.out) | exact HB.out))) hk)), Kd.freshB (g := gb223) (o := .cells #[.int .i64 a0_0, .int .i64 a0_1, .string a0_2, .string a0_3, .bool a0_4, .bool a0_5, .slice A0_6 l0_6.length c0_6, .slice A0_7 l0_7.length c0_7] 39 (0, 0)) (by (with_reducible repeat (first | refine blk_drewN ?_ _ | refine blk_drew ?_ | refine blk_alloc ?_ _)); exact BK223.out) k_ hk⟩) _ (Nat.le_refl _)) (Below.refl _ _) (Nat.le_refl _) (by simp) ?_; (case hd => rfl); (case hg => rfl); (case hr => first | (go_simp; done) | (go_simp; rfl)); (case hp => exact (Reps.one (show Kd.FK (Kd.slice 39 k39) _ _ l0_6 [.slice A0_6 l0_6.length c0_6] from (Kd.FK_slice_mk (Kd.V_reads' (Kd.V_mono (ok' := (fun k_ => ((P0_6_ k_ ∨ P0_7_ k_) ∨ w.heap.size ≤ k_) ∧ k_ ≠ gb223)) (HO0_6.out) (fun k_ hk => ⟨hk.1, hk.2⟩))).2.1 (Kd.V_F (Kd.V_mono (ok' := (fun k_ => ((P0_6_ k_ ∨ P0_7_ k_) ∨ w.heap.size ≤ k_) ∧ k_ ≠ gb223)) (HO0_6.out) (fun k_ hk => ⟨hk.1, hk.2⟩))))) (Reps.one (show Kd.FK (Kd.slice 39 k39) _ _ l0_7 [.slice A0_7 l0_7.length c0_7] from (Kd.FK_slice_mk (Kd.V_reads' (Kd.V_mono (ok' := (fun k_ => ((P0_6_ k_ ∨ P0_7_ k_) ∨ w.heap.size ≤ k_) ∧ k_ ≠ gb223)) (HO0_7.out) (fun k_ hk => ⟨hk.1, hk.2⟩))).2.1 (Kd.V_F (Kd.V_mono (ok' := (fun k_ => ((P0_6_ k_ ∨ P0_7_ k_) ∨ w.heap.size ≤ k_) ∧ k_ ≠ gb223)) (HO0_7.out) (fun k_ hk => ⟨hk.1, hk.2⟩))))) (Reps.none _ _)))); intro v225 w5 ho6 hb hg_ hnew_; clear hg_ hnew_; (first | rw [← Ny224.out] at ho6 | (simp only [Int.reduceToNat] at ho6; rw [← Ny224.out] at ho6)); have n0_ := Aside0.mk (Kd.V_elder' (by (with_reducible repeat (first | apply Kd.V_alloc | apply Kd.V_drewN | apply Kd.V_drew)); exact HO0_6.out) (Kd.N_base ho6) hb); have n1_ := Aside0.mk (Kd.V_elder' (by (with_reducible repeat (first | apply Kd.V_alloc | apply Kd.V_drewN | apply Kd.V_drew)); exact HO0_7.out) (Kd.N_base ho6) hb); have n2_ := Aside0.mk (Kd.N_lower ho6 (below_size (by repeat (first | (with_reducible first | exact HB.out | apply below_alloc | apply pw_below_drewN | apply below_drew1 | refine below_set ?_ GE223.out) | exact HB.out)))); have n3_ := Aside0.mk (blk_below (g := gb223) (o := .cells #[.int .i64 a0_0, .int .i64 a0_1, .string a0_2, .string a0_3, .bool a0_4, .bool a0_5, .slice A0_6 l0_6.length c0_6, .slice A0_7 l0_7.length c0_7] 39 (0, 0)) (by (with_reducible repeat (first | refine blk_drewN ?_ _ | refine blk_drew ?_ | refine blk_alloc ?_ _)); exact BK223.out) hb); have n4_ := Aside0.mk (below_step (by repeat (first | (with_reducible first | exact HB.out | apply below_alloc | apply pw_below_drewN | apply below_drew1 | refine below_set ?_ GE223.out) | exact HB.out)) hb); clear HO0_6; clear HO0_7; clear BK223; clear HB; have HO0_6 := n0_; have HO0_7 := n1_; have HO226 := n2_; have BK223 := n3_; have HB := n4_; clear n0_ n1_ n2_ n3_ n4_; clear hb ho6))
    go_ret
    exact ⟨_, by first | rfl | (simp [errW_none, errW_some] <;> rfl) | (simp [*, errW_none, errW_some] <;> rfl), by (with_reducible repeat (first | apply Kd.N_alloc | apply Kd.N_drewN | apply Kd.N_drew)); exact Kd.N_mono HO226.out (fun _ hk => hk.1), by repeat (first | (with_reducible first | exact HB.out | apply below_alloc | apply pw_below_drewN | apply below_drew1 | refine below_set ?_ GE223.out) | exact HB.out)⟩
  · rw [if_neg c2] at H
    have c2b0 : (a0_0 == 2) = false := beq_eq_false_iff_ne.mpr c2
    have c2b1 : (a0_0 != 2) = true := bne_iff_ne.mpr c2
    by_cases c7 : a0_0 = 3
    · rw [if_pos c7] at H
      have c7b0 : (a0_0 == 3) = true := beq_iff_eq.mpr c7
      have c7b1 : (a0_0 != 3) = false := bne_eq_false_iff_eq.mpr c7
      clear c7
      obtain ⟨y227, hy227⟩ : ∃ y_ : List (List (S39)), y_ = (([l0_6] : List (List (S39)))) := ⟨_, rfl⟩
      replace H : (some y227) = some r := by first | (rw [hy227]; with_reducible exact H) | (have H2_ := (Option.bind_some _ _).symm.trans H; rw [hy227]; with_reducible exact H2_) | (have H2_ := (Option.bind_some _ _).symm.trans H; with_reducible exact H2_) | with_reducible exact H | (rw [hy227]; exact H) | exact H
      have Ny227 := Aside0.mk hy227
      clear hy227
      obtain rfl := Option.some.inj H
      go_enter Tryd.func46, Tryd.ntmps46
      go_wp2_with (first | ((with_reducible refine gate_dst (N := 1) rfl ?_); refine box_event ?hg (N := 1) ?hd (cs := #[.int .i64 a0_0, .int .i64 a0_1, .string a0_2, .string a0_3, .bool a0_4, .bool a0_5, .slice A0_6 l0_6.length c0_6, .slice A0_7 l0_7.length c0_7]) (t := 39) ?hr ?_; (case hd => rfl); (case hg => rfl); (case hr => first | (go_simp; done) | (go_simp; rfl)); intro gb223 hg w8 hbox hb; have n0_ := Aside0.mk (Kd.V_below (Kd.V_elderB (by (with_reducible repeat (first | apply Kd.V_alloc | apply Kd.V_drewN | apply Kd.V_drew)); exact HO0_6.out) gb223 (Nat.le_of_eq hg.symm)) hb); have n1_ := Aside0.mk (Kd.V_below (Kd.V_elderB (by (with_reducible repeat (first | apply Kd.V_alloc | apply Kd.V_drewN | apply Kd.V_drew)); exact HO0_7.out) gb223 (Nat.le_of_eq hg.symm)) hb); have n2_ := Aside0.mk (below_step (by repeat (first | (with_reducible first | exact HB.out | apply below_alloc | apply pw_below_drewN | apply below_drew1) | exact HB.out)) hb); have n3_ := Aside0.mk (hbox); have n4_ := Aside0.mk ((by rw [hg]; exact (below_size (by repeat (first | (with_reducible first | exact HB.out | apply below_alloc | apply pw_below_drewN | apply below_drew1) | exact HB.out))) : w.heap.size ≤ gb223)); have n5_ := Aside0.mk ((by rw [hg]; exact (below_size (by repeat (first | (with_reducible first | exact HB.out | apply below_alloc | apply pw_below_drewN | apply below_drew1) | exact HB.out))) : w.heap.size ≤ gb223)); clear HO0_6; clear HO0_7; clear HB; have HO0_6 := n0_; have HO0_7 := n1_; have HB := n2_; have BK223 := n3_; have GW223 := n4_; have GE223 := n5_; clear n0_ n1_ n2_ n3_ n4_ n5_; clear hb hbox hg; have hcz9_0 : w8.cell? ⟨gb223, 0, none⟩ = some (.int .i64 a0_0) := (blk_cell BK223.out 0).trans rfl; have hcz9_1 : w8.cell? ⟨gb223, 1, none⟩ = some (.int .i64 a0_1) := (blk_cell BK223.out 1).trans rfl; have hcz9_2 : w8.cell? ⟨gb223, 2, none⟩ = some (.string a0_2) := (blk_cell BK223.out 2).trans rfl; have hcz9_3 : w8.cell? ⟨gb223, 3, none⟩ = some (.string a0_3) := (blk_cell BK223.out 3).trans rfl; have hcz9_4 : w8.cell? ⟨gb223, 4, none⟩ = some (.bool a0_4) := (blk_cell BK223.out 4).trans rfl; have hcz9_5 : w8.cell? ⟨gb223, 5, none⟩ = some (.bool a0_5) := (blk_cell BK223.out 5).trans rfl; have hcz9_6 : w8.cell? ⟨gb223, 6, none⟩ = some (.slice A0_6 l0_6.length c0_6) := (blk_cell BK223.out 6).trans rfl; have hcz9_7 : w8.cell? ⟨gb223, 7, none⟩ = some (.slice A0_7 l0_7.length c0_7) := (blk_cell BK223.out 7).trans rfl; have hfz9_0 := blk_frozen BK223.out 0; have hfz9_1 := blk_frozen BK223.out 1; have hfz9_2 := blk_frozen BK223.out 2; have hfz9_3 := blk_frozen BK223.out 3; have hfz9_4 := blk_frozen BK223.out 4; have hfz9_5 := blk_frozen BK223.out 5; have hfz9_6 := blk_frozen BK223.out 6; have hfz9_7 := blk_frozen BK223.out 7) | ((with_reducible refine gate_dst (N := 17) rfl ?_); refine Kd.N_lit (Kd.slice 39 k39) _ 32 ?hg (N' := 17) ?hd (xs := ([l0_6] : List (List (S39)))) (inner := [.slice A0_6 l0_6.length c0_6]) (ok := (fun k_ => ((P0_6_ k_ ∨ P0_7_ k_) ∨ w.heap.size ≤ k_) ∧ k_ ≠ gb223)) (okp := (fun k_ => ((P0_6_ k_ ∨ P0_7_ k_) ∨ w.heap.size ≤ k_) ∧ k_ ≠ gb223)) ?hr ?hp (fun _ hk => hk) ((show ∀ k_, w8.heap.size ≤ k_ → (fun k_ => ((P0_6_ k_ ∨ P0_7_ k_) ∨ w.heap.size ≤ k_) ∧ k_ ≠ gb223) k_ from fun k_ hk => ⟨(.inr (Nat.le_trans (below_size (by repeat (first | (with_reducible first | exact HB.out | apply below_alloc | apply pw_below_drewN | apply below_drew1 | refine below_set ?_ GE223.out) | exact HB.out))) hk)), Kd.freshB (g := gb223) (o := .cells #[.int .i64 a0_0, .int .i64 a0_1, .string a0_2, .string a0_3, .bool a0_4, .bool a0_5, .slice A0_6 l0_6.length c0_6, .slice A0_7 l0_7.length c0_7] 39 (0, 0)) (by (with_reducible repeat (first | refine blk_drewN ?_ _ | refine blk_drew ?_ | refine blk_alloc ?_ _)); exact BK223.out) k_ hk⟩) _ (Nat.le_refl _)) (Below.refl _ _) (Nat.le_refl _) (by simp) ?_; (case hd => rfl); (case hg => rfl); (case hr => first | (go_simp; done) | (go_simp; rfl)); (case hp => exact (Reps.one (show Kd.FK (Kd.slice 39 k39) _ _ l0_6 [.slice A0_6 l0_6.length c0_6] from (Kd.FK_slice_mk (Kd.V_reads' (Kd.V_mono (ok' := (fun k_ => ((P0_6_ k_ ∨ P0_7_ k_) ∨ w.heap.size ≤ k_) ∧ k_ ≠ gb223)) (HO0_6.out) (fun k_ hk => ⟨hk.1, hk.2⟩))).2.1 (Kd.V_F (Kd.V_mono (ok' := (fun k_ => ((P0_6_ k_ ∨ P0_7_ k_) ∨ w.heap.size ≤ k_) ∧ k_ ≠ gb223)) (HO0_6.out) (fun k_ hk => ⟨hk.1, hk.2⟩))))) (Reps.none _ _))); intro v228 w10 ho11 hb hg_ hnew_; clear hg_ hnew_; (first | rw [← Ny227.out] at ho11 | (simp only [Int.reduceToNat] at ho11; rw [← Ny227.out] at ho11)); have n0_ := Aside0.mk (Kd.V_elder' (by (with_reducible repeat (first | apply Kd.V_alloc | apply Kd.V_drewN | apply Kd.V_drew)); exact HO0_6.out) (Kd.N_base ho11) hb); have n1_ := Aside0.mk (Kd.V_elder' (by (with_reducible repeat (first | apply Kd.V_alloc | apply Kd.V_drewN | apply Kd.V_drew)); exact HO0_7.out) (Kd.N_base ho11) hb); have n2_ := Aside0.mk (Kd.N_lower ho11 (below_size (by repeat (first | (with_reducible first | exact HB.out | apply below_alloc | apply pw_below_drewN | apply below_drew1 | refine below_set ?_ GE223.out) | exact HB.out)))); have n3_ := Aside0.mk (blk_below (g := gb223) (o := .cells #[.int .i64 a0_0, .int .i64 a0_1, .string a0_2, .string a0_3, .bool a0_4, .bool a0_5, .slice A0_6 l0_6.length c0_6, .slice A0_7 l0_7.length c0_7] 39 (0, 0)) (by (with_reducible repeat (first | refine blk_drewN ?_ _ | refine blk_drew ?_ | refine blk_alloc ?_ _)); exact BK223.out) hb); have n4_ := Aside0.mk (below_step (by repeat (first | (with_reducible first | exact HB.out | apply below_alloc | apply pw_below_drewN | apply below_drew1 | refine below_set ?_ GE223.out) | exact HB.out)) hb); clear HO0_6; clear HO0_7; clear BK223; clear HB; have HO0_6 := n0_; have HO0_7 := n1_; have HO229 := n2_; have BK223 := n3_; have HB := n4_; clear n0_ n1_ n2_ n3_ n4_; clear hb ho11))
      go_ret
      exact ⟨_, by first | rfl | (simp [errW_none, errW_some] <;> rfl) | (simp [*, errW_none, errW_some] <;> rfl), by (with_reducible repeat (first | apply Kd.N_alloc | apply Kd.N_drewN | apply Kd.N_drew)); exact Kd.N_mono HO229.out (fun _ hk => hk.1), by repeat (first | (with_reducible first | exact HB.out | apply below_alloc | apply pw_below_drewN | apply below_drew1 | refine below_set ?_ GE223.out) | exact HB.out)⟩
    · rw [if_neg c7] at H
      have c7b0 : (a0_0 == 3) = false := beq_eq_false_iff_ne.mpr c7
      have c7b1 : (a0_0 != 3) = true := bne_iff_ne.mpr c7
      by_cases c12 : a0_0 = 6
      · rw [if_pos c12] at H
        have c12b0 : (a0_0 == 6) = true := beq_iff_eq.mpr c12
        have c12b1 : (a0_0 != 6) = false := bne_eq_false_iff_eq.mpr c12
        clear c12
        obtain ⟨y230, hy230⟩ : ∃ y_ : List (List (S39)), y_ = (([l0_6] : List (List (S39)))) := ⟨_, rfl⟩
        replace H : (some y230) = some r := by first | (rw [hy230]; with_reducible exact H) | (have H2_ := (Option.bind_some _ _).symm.trans H; rw [hy230]; with_reducible exact H2_) | (have H2_ := (Option.bind_some _ _).symm.trans H; with_reducible exact H2_) | with_reducible exact H | (rw [hy230]; exact H) | exact H
        have Ny230 := Aside0.mk hy230
        clear hy230
        obtain rfl := Option.some.inj H
        go_enter Tryd.func46, Tryd.ntmps46
        go_wp2_with (first | ((with_reducible refine gate_dst (N := 1) rfl ?_); refine box_event ?hg (N := 1) ?hd (cs := #[.int .i64 a0_0, .int .i64 a0_1, .string a0_2, .string a0_3, .bool a0_4, .bool a0_5, .slice A0_6 l0_6.length c0_6, .slice A0_7 l0_7.length c0_7]) (t := 39) ?hr ?_; (case hd => rfl); (case hg => rfl); (case hr => first | (go_simp; done) | (go_simp; rfl)); intro gb223 hg w13 hbox hb; have n0_ := Aside0.mk (Kd.V_below (Kd.V_elderB (by (with_reducible repeat (first | apply Kd.V_alloc | apply Kd.V_drewN | apply Kd.V_drew)); exact HO0_6.out) gb223 (Nat.le_of_eq hg.symm)) hb); have n1_ := Aside0.mk (Kd.V_below (Kd.V_elderB (by (with_reducible repeat (first | apply Kd.V_alloc | apply Kd.V_drewN | apply Kd.V_drew)); exact HO0_7.out) gb223 (Nat.le_of_eq hg.symm)) hb); have n2_ := Aside0.mk (below_step (by repeat (first | (with_reducible first | exact HB.out | apply below_alloc | apply pw_below_drewN | apply below_drew1) | exact HB.out)) hb); have n3_ := Aside0.mk (hbox); have n4_ := Aside0.mk ((by rw [hg]; exact (below_size (by repeat (first | (with_reducible first | exact HB.out | apply below_alloc | apply pw_below_drewN | apply below_drew1) | exact HB.out))) : w.heap.size ≤ gb223)); have n5_ := Aside0.mk ((by rw [hg]; exact (below_size (by repeat (first | (with_reducible first | exact HB.out | apply below_alloc | apply pw_below_drewN | apply below_drew1) | exact HB.out))) : w.heap.size ≤ gb223)); clear HO0_6; clear HO0_7; clear HB; have HO0_6 := n0_; have HO0_7 := n1_; have HB := n2_; have BK223 := n3_; have GW223 := n4_; have GE223 := n5_; clear n0_ n1_ n2_ n3_ n4_ n5_; clear hb hbox hg; have hcz14_0 : w13.cell? ⟨gb223, 0, none⟩ = some (.int .i64 a0_0) := (blk_cell BK223.out 0).trans rfl; have hcz14_1 : w13.cell? ⟨gb223, 1, none⟩ = some (.int .i64 a0_1) := (blk_cell BK223.out 1).trans rfl; have hcz14_2 : w13.cell? ⟨gb223, 2, none⟩ = some (.string a0_2) := (blk_cell BK223.out 2).trans rfl; have hcz14_3 : w13.cell? ⟨gb223, 3, none⟩ = some (.string a0_3) := (blk_cell BK223.out 3).trans rfl; have hcz14_4 : w13.cell? ⟨gb223, 4, none⟩ = some (.bool a0_4) := (blk_cell BK223.out 4).trans rfl; have hcz14_5 : w13.cell? ⟨gb223, 5, none⟩ = some (.bool a0_5) := (blk_cell BK223.out 5).trans rfl; have hcz14_6 : w13.cell? ⟨gb223, 6, none⟩ = some (.slice A0_6 l0_6.length c0_6) := (blk_cell BK223.out 6).trans rfl; have hcz14_7 : w13.cell? ⟨gb223, 7, none⟩ = some (.slice A0_7 l0_7.length c0_7) := (blk_cell BK223.out 7).trans rfl; have hfz14_0 := blk_frozen BK223.out 0; have hfz14_1 := blk_frozen BK223.out 1; have hfz14_2 := blk_frozen BK223.out 2; have hfz14_3 := blk_frozen BK223.out 3; have hfz14_4 := blk_frozen BK223.out 4; have hfz14_5 := blk_frozen BK223.out 5; have hfz14_6 := blk_frozen BK223.out 6; have hfz14_7 := blk_frozen BK223.out 7) | ((with_reducible refine gate_dst (N := 17) rfl ?_); refine Kd.N_lit (Kd.slice 39 k39) _ 32 ?hg (N' := 17) ?hd (xs := ([l0_6] : List (List (S39)))) (inner := [.slice A0_6 l0_6.length c0_6]) (ok := (fun k_ => ((P0_6_ k_ ∨ P0_7_ k_) ∨ w.heap.size ≤ k_) ∧ k_ ≠ gb223)) (okp := (fun k_ => ((P0_6_ k_ ∨ P0_7_ k_) ∨ w.heap.size ≤ k_) ∧ k_ ≠ gb223)) ?hr ?hp (fun _ hk => hk) ((show ∀ k_, w13.heap.size ≤ k_ → (fun k_ => ((P0_6_ k_ ∨ P0_7_ k_) ∨ w.heap.size ≤ k_) ∧ k_ ≠ gb223) k_ from fun k_ hk => ⟨(.inr (Nat.le_trans (below_size (by repeat (first | (with_reducible first | exact HB.out | apply below_alloc | apply pw_below_drewN | apply below_drew1 | refine below_set ?_ GE223.out) | exact HB.out))) hk)), Kd.freshB (g := gb223) (o := .cells #[.int .i64 a0_0, .int .i64 a0_1, .string a0_2, .string a0_3, .bool a0_4, .bool a0_5, .slice A0_6 l0_6.length c0_6, .slice A0_7 l0_7.length c0_7] 39 (0, 0)) (by (with_reducible repeat (first | refine blk_drewN ?_ _ | refine blk_drew ?_ | refine blk_alloc ?_ _)); exact BK223.out) k_ hk⟩) _ (Nat.le_refl _)) (Below.refl _ _) (Nat.le_refl _) (by simp) ?_; (case hd => rfl); (case hg => rfl); (case hr => first | (go_simp; done) | (go_simp; rfl)); (case hp => exact (Reps.one (show Kd.FK (Kd.slice 39 k39) _ _ l0_6 [.slice A0_6 l0_6.length c0_6] from (Kd.FK_slice_mk (Kd.V_reads' (Kd.V_mono (ok' := (fun k_ => ((P0_6_ k_ ∨ P0_7_ k_) ∨ w.heap.size ≤ k_) ∧ k_ ≠ gb223)) (HO0_6.out) (fun k_ hk => ⟨hk.1, hk.2⟩))).2.1 (Kd.V_F (Kd.V_mono (ok' := (fun k_ => ((P0_6_ k_ ∨ P0_7_ k_) ∨ w.heap.size ≤ k_) ∧ k_ ≠ gb223)) (HO0_6.out) (fun k_ hk => ⟨hk.1, hk.2⟩))))) (Reps.none _ _))); intro v231 w15 ho16 hb hg_ hnew_; clear hg_ hnew_; (first | rw [← Ny230.out] at ho16 | (simp only [Int.reduceToNat] at ho16; rw [← Ny230.out] at ho16)); have n0_ := Aside0.mk (Kd.V_elder' (by (with_reducible repeat (first | apply Kd.V_alloc | apply Kd.V_drewN | apply Kd.V_drew)); exact HO0_6.out) (Kd.N_base ho16) hb); have n1_ := Aside0.mk (Kd.V_elder' (by (with_reducible repeat (first | apply Kd.V_alloc | apply Kd.V_drewN | apply Kd.V_drew)); exact HO0_7.out) (Kd.N_base ho16) hb); have n2_ := Aside0.mk (Kd.N_lower ho16 (below_size (by repeat (first | (with_reducible first | exact HB.out | apply below_alloc | apply pw_below_drewN | apply below_drew1 | refine below_set ?_ GE223.out) | exact HB.out)))); have n3_ := Aside0.mk (blk_below (g := gb223) (o := .cells #[.int .i64 a0_0, .int .i64 a0_1, .string a0_2, .string a0_3, .bool a0_4, .bool a0_5, .slice A0_6 l0_6.length c0_6, .slice A0_7 l0_7.length c0_7] 39 (0, 0)) (by (with_reducible repeat (first | refine blk_drewN ?_ _ | refine blk_drew ?_ | refine blk_alloc ?_ _)); exact BK223.out) hb); have n4_ := Aside0.mk (below_step (by repeat (first | (with_reducible first | exact HB.out | apply below_alloc | apply pw_below_drewN | apply below_drew1 | refine below_set ?_ GE223.out) | exact HB.out)) hb); clear HO0_6; clear HO0_7; clear BK223; clear HB; have HO0_6 := n0_; have HO0_7 := n1_; have HO232 := n2_; have BK223 := n3_; have HB := n4_; clear n0_ n1_ n2_ n3_ n4_; clear hb ho16))
        go_ret
        exact ⟨_, by first | rfl | (simp [errW_none, errW_some] <;> rfl) | (simp [*, errW_none, errW_some] <;> rfl), by (with_reducible repeat (first | apply Kd.N_alloc | apply Kd.N_drewN | apply Kd.N_drew)); exact Kd.N_mono HO232.out (fun _ hk => hk.1), by repeat (first | (with_reducible first | exact HB.out | apply below_alloc | apply pw_below_drewN | apply below_drew1 | refine below_set ?_ GE223.out) | exact HB.out)⟩
      · rw [if_neg c12] at H
        have c12b0 : (a0_0 == 6) = false := beq_eq_false_iff_ne.mpr c12
        have c12b1 : (a0_0 != 6) = true := bne_iff_ne.mpr c12
        obtain rfl := Option.some.inj H
        go_enter Tryd.func46, Tryd.ntmps46
        go_wp2_with (first | ((with_reducible refine gate_dst (N := 1) rfl ?_); refine box_event ?hg (N := 1) ?hd (cs := #[.int .i64 a0_0, .int .i64 a0_1, .string a0_2, .string a0_3, .bool a0_4, .bool a0_5, .slice A0_6 l0_6.length c0_6, .slice A0_7 l0_7.length c0_7]) (t := 39) ?hr ?_; (case hd => rfl); (case hg => rfl); (case hr => first | (go_simp; done) | (go_simp; rfl)); intro gb223 hg w17 hbox hb; have n0_ := Aside0.mk (Kd.V_below (Kd.V_elderB (by (with_reducible repeat (first | apply Kd.V_alloc | apply Kd.V_drewN | apply Kd.V_drew)); exact HO0_6.out) gb223 (Nat.le_of_eq hg.symm)) hb); have n1_ := Aside0.mk (Kd.V_below (Kd.V_elderB (by (with_reducible repeat (first | apply Kd.V_alloc | apply Kd.V_drewN | apply Kd.V_drew)); exact HO0_7.out) gb223 (Nat.le_of_eq hg.symm)) hb); have n2_ := Aside0.mk (below_step (by repeat (first | (with_reducible first | exact HB.out | apply below_alloc | apply pw_below_drewN | apply below_drew1) | exact HB.out)) hb); have n3_ := Aside0.mk (hbox); have n4_ := Aside0.mk ((by rw [hg]; exact (below_size (by repeat (first | (with_reducible first | exact HB.out | apply below_alloc | apply pw_below_drewN | apply below_drew1) | exact HB.out))) : w.heap.size ≤ gb223)); have n5_ := Aside0.mk ((by rw [hg]; exact (below_size (by repeat (first | (with_reducible first | exact HB.out | apply below_alloc | apply pw_below_drewN | apply below_drew1) | exact HB.out))) : w.heap.size ≤ gb223)); clear HO0_6; clear HO0_7; clear HB; have HO0_6 := n0_; have HO0_7 := n1_; have HB := n2_; have BK223 := n3_; have GW223 := n4_; have GE223 := n5_; clear n0_ n1_ n2_ n3_ n4_ n5_; clear hb hbox hg; have hcz18_0 : w17.cell? ⟨gb223, 0, none⟩ = some (.int .i64 a0_0) := (blk_cell BK223.out 0).trans rfl; have hcz18_1 : w17.cell? ⟨gb223, 1, none⟩ = some (.int .i64 a0_1) := (blk_cell BK223.out 1).trans rfl; have hcz18_2 : w17.cell? ⟨gb223, 2, none⟩ = some (.string a0_2) := (blk_cell BK223.out 2).trans rfl; have hcz18_3 : w17.cell? ⟨gb223, 3, none⟩ = some (.string a0_3) := (blk_cell BK223.out 3).trans rfl; have hcz18_4 : w17.cell? ⟨gb223, 4, none⟩ = some (.bool a0_4) := (blk_cell BK223.out 4).trans rfl; have hcz18_5 : w17.cell? ⟨gb223, 5, none⟩ = some (.bool a0_5) := (blk_cell BK223.out 5).trans rfl; have hcz18_6 : w17.cell? ⟨gb223, 6, none⟩ = some (.slice A0_6 l0_6.length c0_6) := (blk_cell BK223.out 6).trans rfl; have hcz18_7 : w17.cell? ⟨gb223, 7, none⟩ = some (.slice A0_7 l0_7.length c0_7) := (blk_cell BK223.out 7).trans rfl; have hfz18_0 := blk_frozen BK223.out 0; have hfz18_1 := blk_frozen BK223.out 1; have hfz18_2 := blk_frozen BK223.out 2; have hfz18_3 := blk_frozen BK223.out 3; have hfz18_4 := blk_frozen BK223.out 4; have hfz18_5 := blk_frozen BK223.out 5; have hfz18_6 := blk_frozen BK223.out 6; have hfz18_7 := blk_frozen BK223.out 7))
        go_ret
        exact ⟨_, by first | rfl | (simp [errW_none, errW_some] <;> rfl) | (simp [*, errW_none, errW_some] <;> rfl), by first | exact Kd.R_nil _ _ _ _ _ | exact Kd.N_nil _ _ _ _ _ | exact Kd.V_nil _ _ _ _ _ | exact Kd.Q_nil _ _ _ _ _ | exact Kd.S_nil _ _ _ _ _, by repeat (first | (with_reducible first | exact HB.out | apply below_alloc | apply pw_below_drewN | apply below_drew1 | refine below_set ?_ GE223.out) | exact HB.out)⟩
mutual
def parse_Count.l0 : Nat → Int → List (S39) → Int → Int → Option (Int)
  | 0, _, _, _, _ => none
  | k + 1, x3, x10, x11, x12 => if x12 < x11 then (if 0 ≤ x12 then (if x12 < (x10.length : Int) then ((parse_branches.f ((rd_T39 x10 x12).f0) ((rd_T39 x10 x12).f1) ((rd_T39 x10 x12).f2) ((rd_T39 x10 x12).f3) ((rd_T39 x10 x12).f4) ((rd_T39 x10 x12).f5) ((rd_T39 x10 x12).f6) ((rd_T39 x10 x12).f7)).bind fun t235 => (parse_Count.l1 k x3 x10 x11 x12 t235 (t235.length : Int) 0)) else (none)) else (none)) else (some x3)
def parse_Count.l1 : Nat → Int → List (S39) → Int → Int → List (List (S39)) → Int → Int → Option (Int)
  | 0, _, _, _, _, _, _, _ => none
  | k + 1, x3, x10, x11, x12, x17, x18, x19 => if x19 < x18 then (if 0 ≤ x19 then (if x19 < (x17.length : Int) then ((parse_Count.f k (rd_L6 x17 x19)).bind fun t239 => (parse_Count.l1 k (wrap64 (x3 + t239)) x10 x11 x12 x17 x18 (wrap64 (x19 + 1)))) else (none)) else (none)) else (parse_Count.l0 k x3 x10 x11 (wrap64 (x12 + 1)))
def parse_Count.f : Nat → List (S39) → Option (Int)
  | 0, _ => none
  | k + 1, l0 => parse_Count.l0 k (l0.length : Int) l0 (l0.length : Int) 0
end
set_option maxHeartbeats 8000000 in
set_option maxRecDepth 100000 in
theorem parse_Count.calls (k : Nat) : ∀ (A0 : Option Addr) (c0 : Nat) (l0 : List (S39)) (r : Int) (w : World) (hr0 : Kd.C k39 w A0 l0.length l0) (hc0 : l0.length ≤ c0) (h : parse_Count.f k l0 = some r),
    Calls Tryd.prog 22 #[.slice A0 l0.length c0] w fun e w' => e = .returned (.int .i64 r) ∧ Below w.heap.size w w' := by
  induction k using Nat.strongRecOn with
  | _ k ih =>
  intro A0 c0 l0 r w hr0 hc0 h
  cases k with
  | zero => exact absurd h (by simp [parse_Count.f])
  | succ k =>
  simp only [parse_Count.f] at h
  have hu39 := Tryd.underlying39
  have HR0 := Aside0.mk hr0
  have HC0 := Aside0.mk hc0
  clear hr0 hc0
  have HB := Aside0.mk (Below.refl w.heap.size w)
  have H : (parse_Count.l0 k (l0.length : Int) l0 (l0.length : Int) 0) = some r := h
  clear h
  have H' := Aside0.mk H
  clear H
  go_enter Tryd.func22, Tryd.ntmps22
  go_wp2
  go_loopg [3, 12] k (fun kq v3 v12 w' => ∃ (x3_1 : Int) (x12_1 : Int), v3 = .int .i64 x3_1 ∧ v12 = .int .i64 x12_1 ∧ Aside0 (parse_Count.l0 kq x3_1 l0 (l0.length : Int) x12_1 = some r) ∧ Aside0 (kq ≤ k) ∧ Aside0 (Below w.heap.size w w'))
  case atStart => exact ⟨((l0.length : Int)), (0), (by first | rfl | (simp; done) | (simp [*]; done)), (by first | rfl | (simp; done) | (simp [*]; done)), H', ⟨Nat.le_refl _⟩, ⟨by repeat (first | (with_reducible first | exact HB.out | apply below_alloc | apply pw_below_drewN | apply below_drew1) | exact HB.out)⟩⟩
  case round =>
    clear H'
    obtain ⟨x3_1, x12_1, rfl, rfl, HA, HK1, HB⟩ := hrel
    cases gk with
    | zero => exact absurd HA.out (by simp [parse_Count.l0])
    | succ k1 =>
      have H := HA.out
      clear HA
      simp only [parse_Count.l0] at H
      by_cases c2 : x12_1 < (l0.length : Int)
      · rw [if_pos c2] at H
        have c2b0 : decide (x12_1 < (l0.length : Int)) = true := decide_eq_true c2
        clear c2
        by_cases c3 : 0 ≤ x12_1
        · rw [if_pos c3] at H
          have c3b0 : decide (0 ≤ x12_1) = true := decide_eq_true c3
          clear c3
          by_cases c4 : x12_1 < (l0.length : Int)
          · rw [if_pos c4] at H
            have c4b0 : decide (x12_1 < (l0.length : Int)) = true := decide_eq_true c4
            clear c4
            replace H := Option.bind_eq_some_iff.mp H
            obtain ⟨t235, A50, H⟩ := H
            replace H : (parse_Count.l1 k1 x3_1 l0 (l0.length : Int) x12_1 t235 (t235.length : Int) 0) = some r := H
            have A5 := Aside0.mk A50
            clear A50
            have H' := Aside0.mk H
            clear H
            have p233 : 0 ≤ (x12_1 : Int) := of_decide_eq_true (by first | (with_reducible assumption) | assumption)
            have q233 : x12_1 < (l0.length : Int) := of_decide_eq_true (by first | (with_reducible assumption) | assumption)
            obtain ⟨ad233, A233_6, c233_6, A233_7, c233_7, e233, hx233_0, hx233_1, hx233_2, hx233_3, hx233_4, hx233_5, hx233_6, hx233_7, hl233_6, hi233_6, hl233_7, hi233_7⟩ := at_T39 HR0.out x12_1 p233 q233
            cases e233
            replace hx233_0 := (HB.out.cell (World.block_lt_of_cell? w _ hx233_0)).trans hx233_0
            replace hx233_1 := (HB.out.cell (World.block_lt_of_cell? w _ hx233_1)).trans hx233_1
            replace hx233_2 := (HB.out.cell (World.block_lt_of_cell? w _ hx233_2)).trans hx233_2
            replace hx233_3 := (HB.out.cell (World.block_lt_of_cell? w _ hx233_3)).trans hx233_3
            replace hx233_4 := (HB.out.cell (World.block_lt_of_cell? w _ hx233_4)).trans hx233_4
            replace hx233_5 := (HB.out.cell (World.block_lt_of_cell? w _ hx233_5)).trans hx233_5
            replace hx233_6 := (HB.out.cell (World.block_lt_of_cell? w _ hx233_6)).trans hx233_6
            replace hx233_7 := (HB.out.cell (World.block_lt_of_cell? w _ hx233_7)).trans hx233_7
            have HR233_6 := Aside0.mk hi233_6
            have HC233_6 := Aside0.mk hl233_6
            clear hi233_6 hl233_6
            have HR233_7 := Aside0.mk hi233_7
            have HC233_7 := Aside0.mk hl233_7
            clear hi233_7 hl233_7
            replace p233 := eq_true p233
            replace q233 := eq_true q233
            go_wp2_with (first | ((with_reducible refine gate_dst (N := 5) rfl ?_); refine box_event ?hg (N := 5) ?hd (cs := #[.int .i64 0, .int .i64 0, .string (⟨#[]⟩ : ByteArray), .string (⟨#[]⟩ : ByteArray), .bool false, .bool false, .slice none 0 0, .slice none 0 0]) (t := 39) ?hr ?_; (case hd => rfl); (case hg => rfl); (case hr => first | (go_simp; done) | (go_simp; rfl)); intro gb234 hg w6 hbox hb; have n0_ := Aside0.mk (below_step (by repeat (first | (with_reducible first | exact HB.out | apply below_alloc | apply pw_below_drewN | apply below_drew1) | exact HB.out)) hb); have n1_ := Aside0.mk (hbox); have n2_ := Aside0.mk ((by rw [hg]; exact (below_size (by repeat (first | (with_reducible first | exact HB.out | apply below_alloc | apply pw_below_drewN | apply below_drew1) | exact HB.out))) : w.heap.size ≤ gb234)); have n3_ := Aside0.mk ((by rw [hg]; exact (below_size (by repeat (first | (with_reducible first | exact HB.out | apply below_alloc | apply pw_below_drewN | apply below_drew1) | exact HB.out))) : w.heap.size ≤ gb234)); clear HB; have HB := n0_; have BK234 := n1_; have GW234 := n2_; have GE234 := n3_; clear n0_ n1_ n2_ n3_; clear hb hbox hg; have hcz7_0 : w6.cell? ⟨gb234, 0, none⟩ = some (.int .i64 0) := (blk_cell BK234.out 0).trans rfl; have hcz7_1 : w6.cell? ⟨gb234, 1, none⟩ = some (.int .i64 0) := (blk_cell BK234.out 1).trans rfl; have hcz7_2 : w6.cell? ⟨gb234, 2, none⟩ = some (.string (⟨#[]⟩ : ByteArray)) := (blk_cell BK234.out 2).trans rfl; have hcz7_3 : w6.cell? ⟨gb234, 3, none⟩ = some (.string (⟨#[]⟩ : ByteArray)) := (blk_cell BK234.out 3).trans rfl; have hcz7_4 : w6.cell? ⟨gb234, 4, none⟩ = some (.bool false) := (blk_cell BK234.out 4).trans rfl; have hcz7_5 : w6.cell? ⟨gb234, 5, none⟩ = some (.bool false) := (blk_cell BK234.out 5).trans rfl; have hcz7_6 : w6.cell? ⟨gb234, 6, none⟩ = some (.slice none 0 0) := (blk_cell BK234.out 6).trans rfl; have hcz7_7 : w6.cell? ⟨gb234, 7, none⟩ = some (.slice none 0 0) := (blk_cell BK234.out 7).trans rfl; have hfz7_0 := blk_frozen BK234.out 0; have hfz7_1 := blk_frozen BK234.out 1; have hfz7_2 := blk_frozen BK234.out 2; have hfz7_3 := blk_frozen BK234.out 3; have hfz7_4 := blk_frozen BK234.out 4; have hfz7_5 := blk_frozen BK234.out 5; have hfz7_6 := blk_frozen BK234.out 6; have hfz7_7 := blk_frozen BK234.out 7) | ((with_reducible refine gate_store (t := 39) (p := 5) rfl ?_); refine store_event (t := 39) (p := 5) (v := ?vo_w8) (w1 := ((((((((w6.setCell ⟨gb234, 0, none⟩ (.int .i64 ((rd_T39 l0 x12_1).f0))).setCell ⟨gb234, 1, none⟩ (.int .i64 ((rd_T39 l0 x12_1).f1))).setCell ⟨gb234, 2, none⟩ (.string ((rd_T39 l0 x12_1).f2))).setCell ⟨gb234, 3, none⟩ (.string ((rd_T39 l0 x12_1).f3))).setCell ⟨gb234, 4, none⟩ (.bool ((rd_T39 l0 x12_1).f4))).setCell ⟨gb234, 5, none⟩ (.bool ((rd_T39 l0 x12_1).f5))).setCell ⟨gb234, 6, none⟩ (.slice A233_6 ((rd_T39 l0 x12_1).f6).length c233_6)).setCell ⟨gb234, 7, none⟩ (.slice A233_7 ((rd_T39 l0 x12_1).f7).length c233_7))) ?hg ?ho ?hn ?hr ?_; (case ho => rfl); (case hg => rfl); (case hn => rfl); (case hr => first | (go_simp; done) | (go_simp; rfl)); intro w8 hw; have n0_ : Aside0 (w8.heap[gb234]? = some (.cells #[.int .i64 ((rd_T39 l0 x12_1).f0), .int .i64 ((rd_T39 l0 x12_1).f1), .string ((rd_T39 l0 x12_1).f2), .string ((rd_T39 l0 x12_1).f3), .bool ((rd_T39 l0 x12_1).f4), .bool ((rd_T39 l0 x12_1).f5), .slice A233_6 ((rd_T39 l0 x12_1).f6).length c233_6, .slice A233_7 ((rd_T39 l0 x12_1).f7).length c233_7] 39 (0, 0))) := ⟨(by rw [hw]; exact (by (with_reducible repeat (first | refine blk_drewN ?_ _ | refine blk_drew ?_ | refine blk_alloc ?_ _)); refine blk_put (cs := #[.int .i64 ((rd_T39 l0 x12_1).f0), .int .i64 ((rd_T39 l0 x12_1).f1), .string ((rd_T39 l0 x12_1).f2), .string ((rd_T39 l0 x12_1).f3), .bool ((rd_T39 l0 x12_1).f4), .bool ((rd_T39 l0 x12_1).f5), .slice A233_6 ((rd_T39 l0 x12_1).f6).length c233_6, .slice none 0 0]) ?_ 7 _ rfl; (with_reducible repeat (first | refine blk_drewN ?_ _ | refine blk_drew ?_ | refine blk_alloc ?_ _)); refine blk_put (cs := #[.int .i64 ((rd_T39 l0 x12_1).f0), .int .i64 ((rd_T39 l0 x12_1).f1), .string ((rd_T39 l0 x12_1).f2), .string ((rd_T39 l0 x12_1).f3), .bool ((rd_T39 l0 x12_1).f4), .bool ((rd_T39 l0 x12_1).f5), .slice none 0 0, .slice none 0 0]) ?_ 6 _ rfl; (with_reducible repeat (first | refine blk_drewN ?_ _ | refine blk_drew ?_ | refine blk_alloc ?_ _)); refine blk_put (cs := #[.int .i64 ((rd_T39 l0 x12_1).f0), .int .i64 ((rd_T39 l0 x12_1).f1), .string ((rd_T39 l0 x12_1).f2), .string ((rd_T39 l0 x12_1).f3), .bool ((rd_T39 l0 x12_1).f4), .bool false, .slice none 0 0, .slice none 0 0]) ?_ 5 _ rfl; (with_reducible repeat (first | refine blk_drewN ?_ _ | refine blk_drew ?_ | refine blk_alloc ?_ _)); refine blk_put (cs := #[.int .i64 ((rd_T39 l0 x12_1).f0), .int .i64 ((rd_T39 l0 x12_1).f1), .string ((rd_T39 l0 x12_1).f2), .string ((rd_T39 l0 x12_1).f3), .bool false, .bool false, .slice none 0 0, .slice none 0 0]) ?_ 4 _ rfl; (with_reducible repeat (first | refine blk_drewN ?_ _ | refine blk_drew ?_ | refine blk_alloc ?_ _)); refine blk_put (cs := #[.int .i64 ((rd_T39 l0 x12_1).f0), .int .i64 ((rd_T39 l0 x12_1).f1), .string ((rd_T39 l0 x12_1).f2), .string (⟨#[]⟩ : ByteArray), .bool false, .bool false, .slice none 0 0, .slice none 0 0]) ?_ 3 _ rfl; (with_reducible repeat (first | refine blk_drewN ?_ _ | refine blk_drew ?_ | refine blk_alloc ?_ _)); refine blk_put (cs := #[.int .i64 ((rd_T39 l0 x12_1).f0), .int .i64 ((rd_T39 l0 x12_1).f1), .string (⟨#[]⟩ : ByteArray), .string (⟨#[]⟩ : ByteArray), .bool false, .bool false, .slice none 0 0, .slice none 0 0]) ?_ 2 _ rfl; (with_reducible repeat (first | refine blk_drewN ?_ _ | refine blk_drew ?_ | refine blk_alloc ?_ _)); refine blk_put (cs := #[.int .i64 ((rd_T39 l0 x12_1).f0), .int .i64 0, .string (⟨#[]⟩ : ByteArray), .string (⟨#[]⟩ : ByteArray), .bool false, .bool false, .slice none 0 0, .slice none 0 0]) ?_ 1 _ rfl; (with_reducible repeat (first | refine blk_drewN ?_ _ | refine blk_drew ?_ | refine blk_alloc ?_ _)); refine blk_put (cs := #[.int .i64 0, .int .i64 0, .string (⟨#[]⟩ : ByteArray), .string (⟨#[]⟩ : ByteArray), .bool false, .bool false, .slice none 0 0, .slice none 0 0]) ?_ 0 _ rfl; (with_reducible repeat (first | refine blk_drewN ?_ _ | refine blk_drew ?_ | refine blk_alloc ?_ _)); exact BK234.out))⟩; have n1_ : Aside0 (Below w.heap.size w w8) := ⟨(by rw [hw]; exact (by repeat (first | (with_reducible first | exact HB.out | apply below_alloc | apply pw_below_drewN | apply below_drew1 | refine below_set ?_ GE234.out) | exact HB.out)))⟩; clear hw; clear BK234; clear HB; have BK234 := n0_; have HB := n1_; clear n0_ n1_; have hcz9_0 : w8.cell? ⟨gb234, 0, none⟩ = some (.int .i64 ((rd_T39 l0 x12_1).f0)) := (blk_cell BK234.out 0).trans rfl; have hcz9_1 : w8.cell? ⟨gb234, 1, none⟩ = some (.int .i64 ((rd_T39 l0 x12_1).f1)) := (blk_cell BK234.out 1).trans rfl; have hcz9_2 : w8.cell? ⟨gb234, 2, none⟩ = some (.string ((rd_T39 l0 x12_1).f2)) := (blk_cell BK234.out 2).trans rfl; have hcz9_3 : w8.cell? ⟨gb234, 3, none⟩ = some (.string ((rd_T39 l0 x12_1).f3)) := (blk_cell BK234.out 3).trans rfl; have hcz9_4 : w8.cell? ⟨gb234, 4, none⟩ = some (.bool ((rd_T39 l0 x12_1).f4)) := (blk_cell BK234.out 4).trans rfl; have hcz9_5 : w8.cell? ⟨gb234, 5, none⟩ = some (.bool ((rd_T39 l0 x12_1).f5)) := (blk_cell BK234.out 5).trans rfl; have hcz9_6 : w8.cell? ⟨gb234, 6, none⟩ = some (.slice A233_6 ((rd_T39 l0 x12_1).f6).length c233_6) := (blk_cell BK234.out 6).trans rfl; have hcz9_7 : w8.cell? ⟨gb234, 7, none⟩ = some (.slice A233_7 ((rd_T39 l0 x12_1).f7).length c233_7) := (blk_cell BK234.out 7).trans rfl; have hfz9_0 := blk_frozen BK234.out 0; have hfz9_1 := blk_frozen BK234.out 1; have hfz9_2 := blk_frozen BK234.out 2; have hfz9_3 := blk_frozen BK234.out 3; have hfz9_4 := blk_frozen BK234.out 4; have hfz9_5 := blk_frozen BK234.out 5; have hfz9_6 := blk_frozen BK234.out 6; have hfz9_7 := blk_frozen BK234.out 7) | ((with_reducible refine gate_callee (f := 46) rfl ?_); refine goesL_ (some 17) rfl rfl Tryd.func46 (by kernel_rfl) rfl #[.agg #[.int .i64 ((rd_T39 l0 x12_1).f0), .int .i64 ((rd_T39 l0 x12_1).f1), .string ((rd_T39 l0 x12_1).f2), .string ((rd_T39 l0 x12_1).f3), .bool ((rd_T39 l0 x12_1).f4), .bool ((rd_T39 l0 x12_1).f5), .slice A233_6 ((rd_T39 l0 x12_1).f6).length c233_6, .slice A233_7 ((rd_T39 l0 x12_1).f7).length c233_7]] rfl (by (try simp only [List.map_toArray, List.map_cons, List.map_nil]); first | done | rfl | (simp only [List.length_drop, List.length_take]; rfl)) ?_; (with_reducible refine (parse_branches.calls ((rd_T39 l0 x12_1).f0) ((rd_T39 l0 x12_1).f1) ((rd_T39 l0 x12_1).f2) ((rd_T39 l0 x12_1).f3) ((rd_T39 l0 x12_1).f4) ((rd_T39 l0 x12_1).f5) (fun k_ => k_ < w.heap.size) _ _ ((rd_T39 l0 x12_1).f6) (fun k_ => k_ < w.heap.size) _ _ ((rd_T39 l0 x12_1).f7) t235 _ ?side1 ?side2 A5.out).mono ?_); (case side1 => exact Kd.V_mk HC233_6.out (Kd.F_below (Kd.C_F k39_heap HR233_6.out) (by repeat (first | (with_reducible first | exact HB.out | apply below_alloc | apply pw_below_drewN | apply below_drew1 | refine below_set ?_ GE234.out) | exact HB.out)))); (case side2 => exact Kd.V_mk HC233_7.out (Kd.F_below (Kd.C_F k39_heap HR233_7.out) (by repeat (first | (with_reducible first | exact HB.out | apply below_alloc | apply pw_below_drewN | apply below_drew1 | refine below_set ?_ GE234.out) | exact HB.out)))); rintro e w10 ⟨v236, rfl, ho0, hb⟩; refine ⟨_, rfl, ?_⟩; have n0_ := Aside0.mk (Kd.N_lower (Kd.N_mono (ok' := fun k_ => k_ ≠ gb234) ho0 (fun k_ hk_ => Or.elim hk_ (fun hs_ => Or.elim hs_ (fun hs_ => fun e_ => Nat.not_le.2 hs_ (by rw [e_]; exact GW234.out)) (fun hs_ => fun e_ => Nat.not_le.2 hs_ (by rw [e_]; exact GW234.out))) (fun hn_ => (Kd.freshB (g := gb234) (o := .cells #[.int .i64 ((rd_T39 l0 x12_1).f0), .int .i64 ((rd_T39 l0 x12_1).f1), .string ((rd_T39 l0 x12_1).f2), .string ((rd_T39 l0 x12_1).f3), .bool ((rd_T39 l0 x12_1).f4), .bool ((rd_T39 l0 x12_1).f5), .slice A233_6 ((rd_T39 l0 x12_1).f6).length c233_6, .slice A233_7 ((rd_T39 l0 x12_1).f7).length c233_7] 39 (0, 0)) (by (with_reducible repeat (first | refine blk_drewN ?_ _ | refine blk_drew ?_ | refine blk_alloc ?_ _)); exact BK234.out) k_ hn_)))) (below_size (by repeat (first | (with_reducible first | exact HB.out | apply below_alloc | apply pw_below_drewN | apply below_drew1 | refine below_set ?_ GE234.out) | exact HB.out)))); have n1_ := Aside0.mk (blk_below (g := gb234) (o := .cells #[.int .i64 ((rd_T39 l0 x12_1).f0), .int .i64 ((rd_T39 l0 x12_1).f1), .string ((rd_T39 l0 x12_1).f2), .string ((rd_T39 l0 x12_1).f3), .bool ((rd_T39 l0 x12_1).f4), .bool ((rd_T39 l0 x12_1).f5), .slice A233_6 ((rd_T39 l0 x12_1).f6).length c233_6, .slice A233_7 ((rd_T39 l0 x12_1).f7).length c233_7] 39 (0, 0)) (by (with_reducible repeat (first | refine blk_drewN ?_ _ | refine blk_drew ?_ | refine blk_alloc ?_ _)); exact BK234.out) hb); have n2_ := Aside0.mk (below_step (by repeat (first | (with_reducible first | exact HB.out | apply below_alloc | apply pw_below_drewN | apply below_drew1 | refine below_set ?_ GE234.out) | exact HB.out)) hb); clear BK234; clear HB; have HO237 := n0_; have BK234 := n1_; have HB := n2_; clear n0_ n1_ n2_; (try clear hb); (try clear hb2); (try clear hk); (try clear hi); (try clear ho0); obtain ⟨Ao11, co11, eo11⟩ := Kd.N_slice HO237.out; subst eo11))
            go_loopg [3, 19] k1 (fun kq v3 v19 w' => ∃ (x3_2 : Int) (x19_2 : Int), v3 = .int .i64 x3_2 ∧ v19 = .int .i64 x19_2 ∧ Aside0 (parse_Count.l1 kq x3_2 l0 (l0.length : Int) x12_1 t235 (t235.length : Int) x19_2 = some r) ∧ Aside0 (kq ≤ k1) ∧ Aside0 (Kd.N (Kd.slice 39 k39) 32 w' w.heap.size (fun k_ => k_ ≠ gb234) (.slice Ao11 t235.length co11) t235) ∧ Aside0 (w'.heap[gb234]? = some (.cells #[.int .i64 ((rd_T39 l0 x12_1).f0), .int .i64 ((rd_T39 l0 x12_1).f1), .string ((rd_T39 l0 x12_1).f2), .string ((rd_T39 l0 x12_1).f3), .bool ((rd_T39 l0 x12_1).f4), .bool ((rd_T39 l0 x12_1).f5), (.slice A233_6 ((rd_T39 l0 x12_1).f6).length c233_6), (.slice A233_7 ((rd_T39 l0 x12_1).f7).length c233_7)] 39 (0, 0))) ∧ Aside0 (Below w.heap.size w w'))
            case atStart => exact ⟨(x3_1), (0), (by first | rfl | (simp; done) | (simp [*]; done)), (by first | rfl | (simp; done) | (simp [*]; done)), H', ⟨Nat.le_refl _⟩, ⟨by (with_reducible repeat (first | apply Kd.N_alloc | apply Kd.N_drewN | apply Kd.N_drew)); exact HO237.out⟩, ⟨by (with_reducible repeat (first | refine blk_drewN ?_ _ | refine blk_drew ?_ | refine blk_alloc ?_ _)); exact BK234.out⟩, ⟨by repeat (first | (with_reducible first | exact HB.out | apply below_alloc | apply pw_below_drewN | apply below_drew1 | refine below_set ?_ GE234.out) | exact HB.out)⟩⟩
            case round =>
              clear H'
              try clear c2
              try clear c2b0
              try clear p2
              try clear q2
              try clear hx2
              try clear c3
              try clear c3b0
              try clear c4
              try clear c4b0
              try clear hcz7_0
              try clear hcz7_1
              try clear hcz7_2
              try clear hcz7_3
              try clear hcz7_4
              try clear hcz7_5
              try clear hcz7_6
              try clear hcz7_7
              try clear hcz9_0
              try clear hcz9_1
              try clear hcz9_2
              try clear hcz9_3
              try clear hcz9_4
              try clear hcz9_5
              try clear hcz9_6
              try clear hcz9_7
              try clear hfz7_0
              try clear hfz7_1
              try clear hfz7_2
              try clear hfz7_3
              try clear hfz7_4
              try clear hfz7_5
              try clear hfz7_6
              try clear hfz7_7
              try clear hfz9_0
              try clear hfz9_1
              try clear hfz9_2
              try clear hfz9_3
              try clear hfz9_4
              try clear hfz9_5
              try clear hfz9_6
              try clear hfz9_7
              try clear hx233_0
              try clear hx233_1
              try clear hx233_2
              try clear hx233_3
              try clear hx233_4
              try clear hx233_5
              try clear hx233_6
              try clear hx233_7
              try clear p233
              try clear q233
              obtain ⟨x3_2, x19_2, rfl, rfl, HA, HK2, HO_17, BK234, HB⟩ := hrel
              cases gk with
              | zero => exact absurd HA.out (by simp [parse_Count.l1])
              | succ k2 =>
                have H := HA.out
                clear HA
                simp only [parse_Count.l1] at H
                by_cases c12 : x19_2 < (t235.length : Int)
                · rw [if_pos c12] at H
                  have c12b0 : decide (x19_2 < (t235.length : Int)) = true := decide_eq_true c12
                  clear c12
                  by_cases c13 : 0 ≤ x19_2
                  · rw [if_pos c13] at H
                    have c13b0 : decide (0 ≤ x19_2) = true := decide_eq_true c13
                    clear c13
                    by_cases c14 : x19_2 < (t235.length : Int)
                    · rw [if_pos c14] at H
                      have c14b0 : decide (x19_2 < (t235.length : Int)) = true := decide_eq_true c14
                      clear c14
                      replace H := Option.bind_eq_some_iff.mp H
                      obtain ⟨t239, A150, H⟩ := H
                      replace H : (parse_Count.l1 k2 (wrap64 (x3_2 + t239)) l0 (l0.length : Int) x12_1 t235 (t235.length : Int) (wrap64 (x19_2 + 1))) = some r := H
                      have A15 := Aside0.mk A150
                      clear A150
                      have H' := Aside0.mk H
                      clear H
                      have p238 : 0 ≤ (x19_2 : Int) := of_decide_eq_true (by first | (with_reducible assumption) | assumption)
                      have q238 : x19_2 < (t235.length : Int) := of_decide_eq_true (by first | (with_reducible assumption) | assumption)
                      obtain ⟨ad238, A238_0, c238_0, e238, hx238_0, hl238_0, hi238_0⟩ := at_L6 (Kd.N_reads' HO_17.out).2.2 x19_2 p238 q238
                      cases e238
                      obtain ⟨ce238, hce238, hMe238, hcc238⟩ := Kd.N_get HO_17.out [] x19_2 p238 (by first | exact q238 | exact of_decide_eq_true (by first | (with_reducible assumption) | assumption) | (have e_ := (Kd.N_reads' HO_17.out).1; omega))
                      obtain ⟨ua238_0, uc238_0, rfl, ul238_0, ge238_0⟩ := Kd.FK_slice_open hMe238
                      have hv238_0 := hcc238 0 _ rfl
                      rw [Nat.add_zero, show ((Kd.slice 39 k39)).sz = 1 from rfl, Nat.mul_one] at hv238_0
                      replace hv238_0 := Option.some.inj (hv238_0.symm.trans hx238_0)
                      injection hv238_0 with hva_ hvn_ hvc_
                      rw [hva_] at ge238_0
                      rw [hvc_] at ul238_0
                      have HL238_0 := Aside0.mk (show Kd.V k39 39 _ w.heap.size _ _ (rd_L6 t235 x19_2) from Kd.V_mk ul238_0 ge238_0)
                      clear hva_ hvn_ hvc_ ge238_0 ul238_0
                      clear hcc238 hce238
                      have HR238_0 := Aside0.mk hi238_0
                      have HC238_0 := Aside0.mk hl238_0
                      clear hi238_0 hl238_0
                      replace p238 := eq_true p238
                      replace q238 := eq_true q238
                      go_wp2_with (first | ((with_reducible refine gate_callee (f := 22) rfl ?_); refine goesL_ (some 25) rfl rfl Tryd.func22 (by kernel_rfl) rfl #[.slice A238_0 (rd_L6 t235 x19_2).length c238_0] rfl (by (try simp only [List.map_toArray, List.map_cons, List.map_nil]); first | done | rfl | (simp only [List.length_drop, List.length_take]; rfl)) ?_; (with_reducible refine (ih k2 (by have := HK1.out; have := HK2.out; omega) _ _ (rd_L6 t235 x19_2) t239 _ ?side1 ?side2 A15.out).mono ?_); (case side1 => repeat (first | exact (by repeat (first | (with_reducible exact HR238_0.out) | (with_reducible refine Kd.C_alloc ?_ _) | (with_reducible refine Kd.C_drewN ?_ _) | (with_reducible refine Kd.C_drew ?_) | exact HR238_0.out)) | (with_reducible refine Kd.C_alloc ?_ _) | (with_reducible refine Kd.C_drewN ?_ _) | (with_reducible refine Kd.C_drew ?_))); (case side2 => exact HC238_0.out); rintro e w16 ⟨rfl, hb⟩; refine ⟨_, rfl, ?_⟩; have n0_ := Aside0.mk (Kd.N_below (by (with_reducible repeat (first | apply Kd.N_alloc | apply Kd.N_drewN | apply Kd.N_drew)); exact HO_17.out) hb); have n1_ := Aside0.mk (Kd.V_below (by (with_reducible repeat (first | apply Kd.V_alloc | apply Kd.V_drewN | apply Kd.V_drew)); exact HL238_0.out) hb); have n2_ := Aside0.mk (blk_below (g := gb234) (o := .cells #[.int .i64 ((rd_T39 l0 x12_1).f0), .int .i64 ((rd_T39 l0 x12_1).f1), .string ((rd_T39 l0 x12_1).f2), .string ((rd_T39 l0 x12_1).f3), .bool ((rd_T39 l0 x12_1).f4), .bool ((rd_T39 l0 x12_1).f5), .slice A233_6 ((rd_T39 l0 x12_1).f6).length c233_6, .slice A233_7 ((rd_T39 l0 x12_1).f7).length c233_7] 39 (0, 0)) (by (with_reducible repeat (first | refine blk_drewN ?_ _ | refine blk_drew ?_ | refine blk_alloc ?_ _)); exact BK234.out) hb); have n3_ := Aside0.mk (Kd.C_below (by repeat (first | (with_reducible exact HR238_0.out) | (with_reducible refine Kd.C_alloc ?_ _) | (with_reducible refine Kd.C_drewN ?_ _) | (with_reducible refine Kd.C_drew ?_) | exact HR238_0.out)) hb); have n4_ := Aside0.mk (below_step (by repeat (first | (with_reducible first | exact HB.out | apply below_alloc | apply pw_below_drewN | apply below_drew1 | refine below_set ?_ GE234.out) | exact HB.out)) hb); clear HO_17; clear HL238_0; clear BK234; clear HR238_0; clear HB; have HO_17 := n0_; have HL238_0 := n1_; have BK234 := n2_; have HR238_0 := n3_; have HB := n4_; clear n0_ n1_ n2_ n3_ n4_; (try clear hb); (try clear hb2); (try clear hk); (try clear hi)))
                      go_roundg k2
                      case measure => have := HK1.out; have := HK2.out; omega
                      case rel => exact ⟨(wrap64 (x3_2 + t239)), (wrap64 (x19_2 + 1)), (by first | rfl | (simp; done) | (simp [*]; done)), (by first | rfl | (simp; done) | (simp [*]; done)), H', ⟨by have := HK1.out; have := HK2.out; omega⟩, ⟨by (with_reducible repeat (first | apply Kd.N_alloc | apply Kd.N_drewN | apply Kd.N_drew)); exact HO_17.out⟩, ⟨by (with_reducible repeat (first | refine blk_drewN ?_ _ | refine blk_drew ?_ | refine blk_alloc ?_ _)); exact BK234.out⟩, ⟨by repeat (first | (with_reducible first | exact HB.out | apply below_alloc | apply pw_below_drewN | apply below_drew1 | refine below_set ?_ GE234.out) | exact HB.out)⟩⟩
                    · rw [if_neg c14] at H
                      exact absurd H (by simp)
                  · rw [if_neg c13] at H
                    exact absurd H (by simp)
                · rw [if_neg c12] at H
                  have c12b0 : decide (x19_2 < (t235.length : Int)) = false := decide_eq_false c12
                  clear c12
                  have H' := Aside0.mk H
                  clear H
                  go_wp2
                  go_roundg k2
                  case measure => have := HK1.out; have := HK2.out; omega
                  case rel => exact ⟨(x3_2), (wrap64 (x12_1 + 1)), (by first | rfl | (simp; done) | (simp [*]; done)), (by first | rfl | (simp; done) | (simp [*]; done)), H', ⟨by have := HK1.out; have := HK2.out; omega⟩, ⟨by repeat (first | (with_reducible first | exact HB.out | apply below_alloc | apply pw_below_drewN | apply below_drew1 | refine below_set ?_ GE234.out) | exact HB.out)⟩⟩
          · rw [if_neg c4] at H
            exact absurd H (by simp)
        · rw [if_neg c3] at H
          exact absurd H (by simp)
      · rw [if_neg c2] at H
        have c2b0 : decide (x12_1 < (l0.length : Int)) = false := decide_eq_false c2
        clear c2
        obtain rfl := Option.some.inj H
        go_wp2
        go_ret
        exact ⟨by first | rfl | (simp [errW_none, errW_some] <;> rfl) | (simp [*, errW_none, errW_some] <;> rfl), by repeat (first | (with_reducible first | exact HB.out | apply below_alloc | apply pw_below_drewN | apply below_drew1) | exact HB.out)⟩
end Go.Proofs.YtgdpojleejdfaaaDoor.Px
