import Derived.Test.YtkpnfejfbmandaaDoorCIM2
import Derived.Test.YtkpnfejfbmandaaDoorCIM19
namespace Go.Proofs.YtkpnfejfbmandaaDoor.Px
open Go.RowKit Go.Proofs.YtkpnfejfbmandaaDoorW.PrintWords Go.Proofs.YtkpnfejfbmandaaDoorW.PrintLast Go.Proofs.YtkpnfejfbmandaaDoorW.PrintMore
attribute [local go_sem] max2_int min2_int max_two min_two max_three min_three max_four min_four   -- for this text's walks alone
set_option linter.unusedVariables false
set_option linter.unusedSimpArgs false
mutual
def compile_prints.l0 : Nat → Int → List (S78) → Int → Int → Option (Int)
  | 0, _, _, _, _ => none
  | k + 1, x3, x6, x7, x8 => if x8 < x7 then (if 0 ≤ x8 then (if x8 < (x6.length : Int) then ((compile_prints.f k ((rd_T78 x6 x8).f6)).bind fun t221 => ((compile_prints.f k ((rd_T78 x6 x8).f7)).bind fun t222 => (if ((rd_T78 x6 x8).f0) = 1 then (compile_prints.l0 k (wrap64 ((wrap64 (x3 + (wrap64 (t221 + t222)))) + 1)) x6 x7 (wrap64 (x8 + 1))) else (compile_prints.l0 k (wrap64 (x3 + (wrap64 (t221 + t222)))) x6 x7 (wrap64 (x8 + 1)))))) else (none)) else (none)) else (some x3)
def compile_prints.f : Nat → List (S78) → Option (Int)
  | 0, _ => none
  | k + 1, l0 => compile_prints.l0 k 0 l0 (l0.length : Int) 0
end
def compile_prints.T5 : Bool × List (List Nat × List Nat) := (true, [([], []), ([], []), ([1], [1]), ([2], [2]), ([], []), ([4], [4]), ([5, 3], [5]), ([3, 6], [3, 6]), ([0, 7], [0, 7]), ([8, 6, 0, 1, 2, 3, 4, 5, 6, 7, 8], [0, 8])])
def compile_prints.B5 : List Nat := [0, 0, 2, 6, 0, 16, 62, 126, 255, 511]
theorem compile_prints.tab5 : rtab .any (opsOf Tryd.f56 5) = compile_prints.T5 := by kernel_rfl
theorem compile_prints.bits5 : waitsOk compile_prints.T5.2 compile_prints.B5 = true := by kernel_rfl
set_option maxHeartbeats 8000000 in
set_option maxRecDepth 100000 in
theorem compile_prints.calls (k : Nat) : ∀ (A0 : Option Addr) (c0 : Nat) (l0 : List (S78)) (r : Int) (w : World) (hr0 : Kd.C k78 w A0 l0.length l0) (hc0 : l0.length ≤ c0) (h : compile_prints.f k l0 = some r),
    Calls Tryd.prog 56 #[.slice A0 l0.length c0] w fun e w' => e = .returned (.int .i64 r) ∧ Below w.heap.size w w' := by
  induction k using Nat.strongRecOn with
  | _ k ih =>
  intro A0 c0 l0 r w hr0 hc0 h
  cases k with
  | zero => exact absurd h (by simp [compile_prints.f])
  | succ k =>
  simp only [compile_prints.f] at h
  have hu78 := Tryd.underlying78
  have HR0 := Aside0.mk hr0
  have HC0 := Aside0.mk hc0
  clear hr0 hc0
  have HB := Aside0.mk (Below.refl w.heap.size w)
  have H : (compile_prints.l0 k 0 l0 (l0.length : Int) 0) = some r := h
  clear h
  have H' := Aside0.mk H
  clear H
  go_enter Tryd.func56, Tryd.ntmps56
  go_wp2
  go_loopg [3, 8] k (fun kq v3 v8 w' => ∃ (x3_1 : Int) (x8_1 : Int), v3 = .int .i64 x3_1 ∧ v8 = .int .i64 x8_1 ∧ Aside0 (compile_prints.l0 kq x3_1 l0 (l0.length : Int) x8_1 = some r) ∧ Aside0 (kq ≤ k) ∧ Aside0 (Below w.heap.size w w'))
  case atStart => exact ⟨(0), (0), (by first | rfl | (simp; done) | (simp [*]; done)), (by first | rfl | (simp; done) | (simp [*]; done)), H', ⟨Nat.le_refl _⟩, ⟨by repeat (first | (with_reducible first | exact HB.out | apply below_alloc | apply pw_below_drewN | apply below_drew1) | exact HB.out)⟩⟩
  case round =>
    clear H'
    obtain ⟨x3_1, x8_1, rfl, rfl, HA, HK1, HB⟩ := hrel
    cases gk with
    | zero => exact absurd HA.out (by simp [compile_prints.l0])
    | succ k1 =>
      have H := HA.out
      clear HA
      simp only [compile_prints.l0] at H
      by_cases c2 : x8_1 < (l0.length : Int)
      · rw [if_pos c2] at H
        have c2b0 : decide (x8_1 < (l0.length : Int)) = true := decide_eq_true c2
        clear c2
        by_cases c3 : 0 ≤ x8_1
        · rw [if_pos c3] at H
          have c3b0 : decide (0 ≤ x8_1) = true := decide_eq_true c3
          clear c3
          by_cases c4 : x8_1 < (l0.length : Int)
          · rw [if_pos c4] at H
            have c4b0 : decide (x8_1 < (l0.length : Int)) = true := decide_eq_true c4
            clear c4
            replace H := Option.bind_eq_some_iff.mp H
            obtain ⟨t221, A50, H⟩ := H
            replace H : ((compile_prints.f k1 ((rd_T78 l0 x8_1).f7)).bind fun t222 => (if ((rd_T78 l0 x8_1).f0) = 1 then (compile_prints.l0 k1 (wrap64 ((wrap64 (x3_1 + (wrap64 (t221 + t222)))) + 1)) l0 (l0.length : Int) (wrap64 (x8_1 + 1))) else (compile_prints.l0 k1 (wrap64 (x3_1 + (wrap64 (t221 + t222)))) l0 (l0.length : Int) (wrap64 (x8_1 + 1))))) = some r := H
            have A5 := Aside0.mk A50
            clear A50
            replace H := Option.bind_eq_some_iff.mp H
            obtain ⟨t222, A60, H⟩ := H
            replace H : (if ((rd_T78 l0 x8_1).f0) = 1 then (compile_prints.l0 k1 (wrap64 ((wrap64 (x3_1 + (wrap64 (t221 + t222)))) + 1)) l0 (l0.length : Int) (wrap64 (x8_1 + 1))) else (compile_prints.l0 k1 (wrap64 (x3_1 + (wrap64 (t221 + t222)))) l0 (l0.length : Int) (wrap64 (x8_1 + 1)))) = some r := H
            have A6 := Aside0.mk A60
            clear A60
            by_cases c7 : ((rd_T78 l0 x8_1).f0) = 1
            · rw [if_pos c7] at H
              have c7b0 : (((rd_T78 l0 x8_1).f0) == 1) = true := beq_iff_eq.mpr c7
              have c7b1 : (((rd_T78 l0 x8_1).f0) != 1) = false := bne_eq_false_iff_eq.mpr c7
              clear c7
              have H' := Aside0.mk H
              clear H
              have p219 : 0 ≤ (x8_1 : Int) := of_decide_eq_true (by first | (with_reducible assumption) | assumption)
              have q219 : x8_1 < (l0.length : Int) := of_decide_eq_true (by first | (with_reducible assumption) | assumption)
              obtain ⟨ad219, A219_6, c219_6, A219_7, c219_7, e219, hx219_0, hx219_1, hx219_2, hx219_3, hx219_4, hx219_5, hx219_6, hx219_7, hl219_6, hi219_6, hl219_7, hi219_7⟩ := at_T78 HR0.out x8_1 p219 q219
              cases e219
              replace hx219_0 := (HB.out.cell (World.block_lt_of_cell? w _ hx219_0)).trans hx219_0
              replace hx219_1 := (HB.out.cell (World.block_lt_of_cell? w _ hx219_1)).trans hx219_1
              replace hx219_2 := (HB.out.cell (World.block_lt_of_cell? w _ hx219_2)).trans hx219_2
              replace hx219_3 := (HB.out.cell (World.block_lt_of_cell? w _ hx219_3)).trans hx219_3
              replace hx219_4 := (HB.out.cell (World.block_lt_of_cell? w _ hx219_4)).trans hx219_4
              replace hx219_5 := (HB.out.cell (World.block_lt_of_cell? w _ hx219_5)).trans hx219_5
              replace hx219_6 := (HB.out.cell (World.block_lt_of_cell? w _ hx219_6)).trans hx219_6
              replace hx219_7 := (HB.out.cell (World.block_lt_of_cell? w _ hx219_7)).trans hx219_7
              have HR219_6 := Aside0.mk hi219_6
              have HC219_6 := Aside0.mk hl219_6
              clear hi219_6 hl219_6
              have HR219_7 := Aside0.mk hi219_7
              have HC219_7 := Aside0.mk hl219_7
              clear hi219_7 hl219_7
              replace p219 := eq_true p219
              replace q219 := eq_true q219
              try go_wp2_with (first | ((with_reducible refine gate_dst (N := 5) rfl ?_); refine box_event ?hg (N := 5) ?hd (cs := #[.int .i64 0, .int .i64 0, .string (⟨#[]⟩ : ByteArray), .string (⟨#[]⟩ : ByteArray), .bool false, .bool false, .slice none 0 0, .slice none 0 0]) (t := 78) ?hr ?_; (case hd => rfl); (case hg => rfl); (case hr => first | (go_simp; done) | (go_simp; rfl)); intro gb220 hg w8 hbox hb; have n0_ := Aside0.mk (below_step (by repeat (first | (with_reducible first | exact HB.out | apply below_alloc | apply pw_below_drewN | apply below_drew1) | exact HB.out)) hb); have n1_ := Aside0.mk (hbox); have n2_ := Aside0.mk ((by rw [hg]; exact (below_size (by repeat (first | (with_reducible first | exact HB.out | apply below_alloc | apply pw_below_drewN | apply below_drew1) | exact HB.out))) : w.heap.size ≤ gb220)); have n3_ := Aside0.mk ((by rw [hg]; exact (below_size (by repeat (first | (with_reducible first | exact HB.out | apply below_alloc | apply pw_below_drewN | apply below_drew1) | exact HB.out))) : w.heap.size ≤ gb220)); clear HB; have HB := n0_; have BK220 := n1_; have GW220 := n2_; have GE220 := n3_; clear n0_ n1_ n2_ n3_; clear hb hbox hg; have hcz9_0 : w8.cell? ⟨gb220, 0, none⟩ = some (.int .i64 0) := (blk_cell BK220.out 0).trans rfl; have hcz9_1 : w8.cell? ⟨gb220, 1, none⟩ = some (.int .i64 0) := (blk_cell BK220.out 1).trans rfl; have hcz9_2 : w8.cell? ⟨gb220, 2, none⟩ = some (.string (⟨#[]⟩ : ByteArray)) := (blk_cell BK220.out 2).trans rfl; have hcz9_3 : w8.cell? ⟨gb220, 3, none⟩ = some (.string (⟨#[]⟩ : ByteArray)) := (blk_cell BK220.out 3).trans rfl; have hcz9_4 : w8.cell? ⟨gb220, 4, none⟩ = some (.bool false) := (blk_cell BK220.out 4).trans rfl; have hcz9_5 : w8.cell? ⟨gb220, 5, none⟩ = some (.bool false) := (blk_cell BK220.out 5).trans rfl; have hcz9_6 : w8.cell? ⟨gb220, 6, none⟩ = some (.slice none 0 0) := (blk_cell BK220.out 6).trans rfl; have hcz9_7 : w8.cell? ⟨gb220, 7, none⟩ = some (.slice none 0 0) := (blk_cell BK220.out 7).trans rfl; have hfz9_0 := blk_frozen BK220.out 0; have hfz9_1 := blk_frozen BK220.out 1; have hfz9_2 := blk_frozen BK220.out 2; have hfz9_3 := blk_frozen BK220.out 3; have hfz9_4 := blk_frozen BK220.out 4; have hfz9_5 := blk_frozen BK220.out 5; have hfz9_6 := blk_frozen BK220.out 6; have hfz9_7 := blk_frozen BK220.out 7))
              have n0_ : Aside0 (((((((((w8.setCell ⟨gb220, 0, none⟩ (.int .i64 ((rd_T78 l0 x8_1).f0))).setCell ⟨gb220, 1, none⟩ (.int .i64 ((rd_T78 l0 x8_1).f1))).setCell ⟨gb220, 2, none⟩ (.string ((rd_T78 l0 x8_1).f2))).setCell ⟨gb220, 3, none⟩ (.string ((rd_T78 l0 x8_1).f3))).setCell ⟨gb220, 4, none⟩ (.bool ((rd_T78 l0 x8_1).f4))).setCell ⟨gb220, 5, none⟩ (.bool ((rd_T78 l0 x8_1).f5))).setCell ⟨gb220, 6, none⟩ (.slice A219_6 ((rd_T78 l0 x8_1).f6).length c219_6)).setCell ⟨gb220, 7, none⟩ (.slice A219_7 ((rd_T78 l0 x8_1).f7).length c219_7)).heap[gb220]? = some (.cells #[.int .i64 ((rd_T78 l0 x8_1).f0), .int .i64 ((rd_T78 l0 x8_1).f1), .string ((rd_T78 l0 x8_1).f2), .string ((rd_T78 l0 x8_1).f3), .bool ((rd_T78 l0 x8_1).f4), .bool ((rd_T78 l0 x8_1).f5), .slice A219_6 ((rd_T78 l0 x8_1).f6).length c219_6, .slice A219_7 ((rd_T78 l0 x8_1).f7).length c219_7] 78 (0, 0))) := ⟨by (with_reducible repeat (first | refine blk_drewN ?_ _ | refine blk_drew ?_ | refine blk_alloc ?_ _)); refine blk_put (cs := #[.int .i64 ((rd_T78 l0 x8_1).f0), .int .i64 ((rd_T78 l0 x8_1).f1), .string ((rd_T78 l0 x8_1).f2), .string ((rd_T78 l0 x8_1).f3), .bool ((rd_T78 l0 x8_1).f4), .bool ((rd_T78 l0 x8_1).f5), .slice A219_6 ((rd_T78 l0 x8_1).f6).length c219_6, .slice none 0 0]) ?_ 7 _ rfl; (with_reducible repeat (first | refine blk_drewN ?_ _ | refine blk_drew ?_ | refine blk_alloc ?_ _)); refine blk_put (cs := #[.int .i64 ((rd_T78 l0 x8_1).f0), .int .i64 ((rd_T78 l0 x8_1).f1), .string ((rd_T78 l0 x8_1).f2), .string ((rd_T78 l0 x8_1).f3), .bool ((rd_T78 l0 x8_1).f4), .bool ((rd_T78 l0 x8_1).f5), .slice none 0 0, .slice none 0 0]) ?_ 6 _ rfl; (with_reducible repeat (first | refine blk_drewN ?_ _ | refine blk_drew ?_ | refine blk_alloc ?_ _)); refine blk_put (cs := #[.int .i64 ((rd_T78 l0 x8_1).f0), .int .i64 ((rd_T78 l0 x8_1).f1), .string ((rd_T78 l0 x8_1).f2), .string ((rd_T78 l0 x8_1).f3), .bool ((rd_T78 l0 x8_1).f4), .bool false, .slice none 0 0, .slice none 0 0]) ?_ 5 _ rfl; (with_reducible repeat (first | refine blk_drewN ?_ _ | refine blk_drew ?_ | refine blk_alloc ?_ _)); refine blk_put (cs := #[.int .i64 ((rd_T78 l0 x8_1).f0), .int .i64 ((rd_T78 l0 x8_1).f1), .string ((rd_T78 l0 x8_1).f2), .string ((rd_T78 l0 x8_1).f3), .bool false, .bool false, .slice none 0 0, .slice none 0 0]) ?_ 4 _ rfl; (with_reducible repeat (first | refine blk_drewN ?_ _ | refine blk_drew ?_ | refine blk_alloc ?_ _)); refine blk_put (cs := #[.int .i64 ((rd_T78 l0 x8_1).f0), .int .i64 ((rd_T78 l0 x8_1).f1), .string ((rd_T78 l0 x8_1).f2), .string (⟨#[]⟩ : ByteArray), .bool false, .bool false, .slice none 0 0, .slice none 0 0]) ?_ 3 _ rfl; (with_reducible repeat (first | refine blk_drewN ?_ _ | refine blk_drew ?_ | refine blk_alloc ?_ _)); refine blk_put (cs := #[.int .i64 ((rd_T78 l0 x8_1).f0), .int .i64 ((rd_T78 l0 x8_1).f1), .string (⟨#[]⟩ : ByteArray), .string (⟨#[]⟩ : ByteArray), .bool false, .bool false, .slice none 0 0, .slice none 0 0]) ?_ 2 _ rfl; (with_reducible repeat (first | refine blk_drewN ?_ _ | refine blk_drew ?_ | refine blk_alloc ?_ _)); refine blk_put (cs := #[.int .i64 ((rd_T78 l0 x8_1).f0), .int .i64 0, .string (⟨#[]⟩ : ByteArray), .string (⟨#[]⟩ : ByteArray), .bool false, .bool false, .slice none 0 0, .slice none 0 0]) ?_ 1 _ rfl; (with_reducible repeat (first | refine blk_drewN ?_ _ | refine blk_drew ?_ | refine blk_alloc ?_ _)); refine blk_put (cs := #[.int .i64 0, .int .i64 0, .string (⟨#[]⟩ : ByteArray), .string (⟨#[]⟩ : ByteArray), .bool false, .bool false, .slice none 0 0, .slice none 0 0]) ?_ 0 _ rfl; (with_reducible repeat (first | refine blk_drewN ?_ _ | refine blk_drew ?_ | refine blk_alloc ?_ _)); exact BK220.out⟩
              have n1_ : Aside0 (Below w.heap.size w ((((((((w8.setCell ⟨gb220, 0, none⟩ (.int .i64 ((rd_T78 l0 x8_1).f0))).setCell ⟨gb220, 1, none⟩ (.int .i64 ((rd_T78 l0 x8_1).f1))).setCell ⟨gb220, 2, none⟩ (.string ((rd_T78 l0 x8_1).f2))).setCell ⟨gb220, 3, none⟩ (.string ((rd_T78 l0 x8_1).f3))).setCell ⟨gb220, 4, none⟩ (.bool ((rd_T78 l0 x8_1).f4))).setCell ⟨gb220, 5, none⟩ (.bool ((rd_T78 l0 x8_1).f5))).setCell ⟨gb220, 6, none⟩ (.slice A219_6 ((rd_T78 l0 x8_1).f6).length c219_6)).setCell ⟨gb220, 7, none⟩ (.slice A219_7 ((rd_T78 l0 x8_1).f7).length c219_7))) := ⟨by repeat (first | (with_reducible first | exact HB.out | apply below_alloc | apply pw_below_drewN | apply below_drew1 | refine below_set ?_ GE220.out) | exact HB.out)⟩
              (try clear BK220)
              (try clear HB)
              generalize ((((((((w8.setCell ⟨gb220, 0, none⟩ (.int .i64 ((rd_T78 l0 x8_1).f0))).setCell ⟨gb220, 1, none⟩ (.int .i64 ((rd_T78 l0 x8_1).f1))).setCell ⟨gb220, 2, none⟩ (.string ((rd_T78 l0 x8_1).f2))).setCell ⟨gb220, 3, none⟩ (.string ((rd_T78 l0 x8_1).f3))).setCell ⟨gb220, 4, none⟩ (.bool ((rd_T78 l0 x8_1).f4))).setCell ⟨gb220, 5, none⟩ (.bool ((rd_T78 l0 x8_1).f5))).setCell ⟨gb220, 6, none⟩ (.slice A219_6 ((rd_T78 l0 x8_1).f6).length c219_6)).setCell ⟨gb220, 7, none⟩ (.slice A219_7 ((rd_T78 l0 x8_1).f7).length c219_7)) = w10 at n0_ n1_ ⊢
              have BK220 := n0_
              have HB := n1_
              clear n0_ n1_
              have n0_ := Aside0.mk (blk_drew BK220.out)
              have n1_ := Aside0.mk (below_drew1 HB.out)
              clear BK220
              clear HB
              have BK220 := n0_
              have HB := n1_
              clear n0_ n1_
              refine start_ (n := 10) (S := fun w' => w'.cell? ⟨gb220, 0, none⟩ = some (.int .i64 ((rd_T78 l0 x8_1).f0)) ∧ w'.cell? ⟨gb220, 1, none⟩ = some (.int .i64 ((rd_T78 l0 x8_1).f1)) ∧ w'.cell? ⟨gb220, 2, none⟩ = some (.string ((rd_T78 l0 x8_1).f2)) ∧ w'.cell? ⟨gb220, 3, none⟩ = some (.string ((rd_T78 l0 x8_1).f3)) ∧ w'.cell? ⟨gb220, 4, none⟩ = some (.bool ((rd_T78 l0 x8_1).f4)) ∧ w'.cell? ⟨gb220, 5, none⟩ = some (.bool ((rd_T78 l0 x8_1).f5)) ∧ w'.cell? ⟨gb220, 6, none⟩ = some (.slice A219_6 ((rd_T78 l0 x8_1).f6).length c219_6) ∧ w'.cell? ⟨gb220, 7, none⟩ = some (.slice A219_7 ((rd_T78 l0 x8_1).f7).length c219_7)) (ds := []) #[false, false, false, false, false, false, false, false, false, false] (by kernel_rfl) rfl rfl ⟨(blk_cell BK220.out 0).trans rfl, (blk_cell BK220.out 1).trans rfl, (blk_cell BK220.out 2).trans rfl, (blk_cell BK220.out 3).trans rfl, (blk_cell BK220.out 4).trans rfl, (blk_cell BK220.out 5).trans rfl, (blk_cell BK220.out 6).trans rfl, (blk_cell BK220.out 7).trans rfl⟩ (fun hHeld => ?_); refine with_tabW compile_prints.tab5 compile_prints.bits5 (fun HT_ HW_ => ?_)
              generalize w10.drew = w11 at BK220 HB hHeld ⊢
              refine pure_ (i := 0) (N := some 12) (v := ?_) (a' := ?_) #[true, false, false, false, false, false, false, false, false, false] rfl rfl (any_of HT_.out (by kernel_rfl)) (fun _ _ _ h => h) (Or.inl ⟨by rfl, ?_⟩) ?_ ?_
              rotate_left
              · intro w'
                go_simp
                with_reducible rfl
              rotate_left
              · simp only [Act.put, List.setIfInBounds_toArray, List.set_cons_zero, List.set_cons_succ, i64_w, i32_w]
                rfl
              refine pure_ (i := 1) (N := some 13) (v := ?_) (a' := ?_) #[true, true, false, false, false, false, false, false, false, false] rfl rfl (any_of HT_.out (by kernel_rfl)) (fun _ _ _ h => h) (Or.inl ⟨by rfl, ?_⟩) ?_ ?_
              rotate_left
              · intro w'
                go_simp
                with_reducible rfl
              rotate_left
              · simp only [Act.put, List.setIfInBounds_toArray, List.set_cons_zero, List.set_cons_succ, i64_w, i32_w]
                rfl
              refine pure_ (i := 4) (N := some 16) (v := ?_) (a' := ?_) #[true, true, false, false, true, false, false, false, false, false] rfl rfl (any_of HT_.out (by kernel_rfl)) (fun _ _ _ h => h) (Or.inl ⟨by rfl, ?_⟩) ?_ ?_
              rotate_left
              · intro w'
                go_simp
                with_reducible rfl
              rotate_left
              · simp only [Act.put, List.setIfInBounds_toArray, List.set_cons_zero, List.set_cons_succ, i64_w, i32_w]
                rfl
              refine take_ (i := 2) (N := some 14) (v := ?_) (a' := ?_) #[true, true, true, false, true, false, false, false, false, false] rfl rfl (take_ofW HT_.out HW_.out (by kernel_rfl)) (fun _ _ _ h => h) (Or.inl ⟨by rfl, ?_⟩) hHeld ?_ ?_
              rotate_left
              · rintro w' ⟨s0, s1, s2, s3, s4, s5, s6, s7⟩
                go_simp
                with_reducible rfl
              rotate_left
              · simp only [Act.put, List.setIfInBounds_toArray, List.set_cons_zero, List.set_cons_succ, i64_w, i32_w]
                rfl
              refine take_ (i := 5) (N := some 17) (v := ?_) (a' := ?_) #[true, true, true, false, true, true, false, false, false, false] rfl rfl (take_ofW HT_.out HW_.out (by kernel_rfl)) (fun _ _ _ h => h) (Or.inl ⟨by rfl, ?_⟩) hHeld ?_ ?_
              rotate_left
              · rintro w' ⟨s0, s1, s2, s3, s4, s5, s6, s7⟩
                go_simp
                with_reducible rfl
              rotate_left
              · simp only [Act.put, List.setIfInBounds_toArray, List.set_cons_zero, List.set_cons_succ, i64_w, i32_w]
                rfl
              refine one_ (i := 3) (N := some 15) #[true, true, true, true, true, true, false, false, false, false] rfl rfl (one_of HT_.out (by kernel_rfl)) (by decide) (fun K hK => ?_)
              refine goes_ Tryd.func56 (by kernel_rfl) rfl #[.slice A219_6 ((rd_T78 l0 x8_1).f6).length c219_6] (by rfl) rfl rfl (by (try simp only [List.map_toArray, List.map_cons, List.map_nil]); first | done | rfl | (simp only [List.length_drop, List.length_take]; rfl)) ?_
              with_reducible refine (ih k1 (by have := HK1.out; omega) _ _ ((rd_T78 l0 x8_1).f6) t221 _ ?side1 ?side2 A5.out).mono ?_
              (case side1 => repeat (first | exact (Kd.C_below HR219_6.out HB.out) | (with_reducible refine Kd.C_alloc ?_ _) | (with_reducible refine Kd.C_drewN ?_ _) | (with_reducible refine Kd.C_drew ?_)))
              (case side2 => exact HC219_6.out)
              rintro e w12 ⟨rfl, hb⟩
              refine ⟨_, rfl, ?_⟩
              have n0_ := Aside0.mk (blk_below (g := gb220) (o := .cells #[.int .i64 ((rd_T78 l0 x8_1).f0), .int .i64 ((rd_T78 l0 x8_1).f1), .string ((rd_T78 l0 x8_1).f2), .string ((rd_T78 l0 x8_1).f3), .bool ((rd_T78 l0 x8_1).f4), .bool ((rd_T78 l0 x8_1).f5), .slice A219_6 ((rd_T78 l0 x8_1).f6).length c219_6, .slice A219_7 ((rd_T78 l0 x8_1).f7).length c219_7] 78 (0, 0)) (by (with_reducible repeat (first | refine blk_drewN ?_ _ | refine blk_drew ?_ | refine blk_alloc ?_ _)); exact BK220.out) hb)
              have n1_ := Aside0.mk (below_step (by repeat (first | (with_reducible first | exact HB.out | apply below_alloc | apply pw_below_drewN | apply below_drew1 | refine below_set ?_ GE220.out) | exact HB.out)) hb)
              clear BK220
              clear HB
              have BK220 := n0_
              have HB := n1_
              clear n0_ n1_
              (try clear hb)
              (try clear hb2)
              (try clear hk)
              (try clear hi)
              refine hK.out _ _ ⟨(blk_cell BK220.out 0).trans rfl, (blk_cell BK220.out 1).trans rfl, (blk_cell BK220.out 2).trans rfl, (blk_cell BK220.out 3).trans rfl, (blk_cell BK220.out 4).trans rfl, (blk_cell BK220.out 5).trans rfl, (blk_cell BK220.out 6).trans rfl, (blk_cell BK220.out 7).trans rfl⟩ (fun hHeld => ?_)
              clear hK K
              refine norm_ (a' := ?_) ?_ ?_
              rotate_left
              · show Act.put _ (some 15) _ = _
                simp only [Act.put, List.setIfInBounds_toArray, List.set_cons_zero, List.set_cons_succ, i64_w, i32_w]
                rfl
              refine one_ (i := 6) (N := some 18) #[true, true, true, true, true, true, true, false, false, false] rfl rfl (one_of HT_.out (by kernel_rfl)) (by decide) (fun K hK => ?_)
              refine goes_ Tryd.func56 (by kernel_rfl) rfl #[.slice A219_7 ((rd_T78 l0 x8_1).f7).length c219_7] (by rfl) rfl rfl (by (try simp only [List.map_toArray, List.map_cons, List.map_nil]); first | done | rfl | (simp only [List.length_drop, List.length_take]; rfl)) ?_
              with_reducible refine (ih k1 (by have := HK1.out; omega) _ _ ((rd_T78 l0 x8_1).f7) t222 _ ?side1 ?side2 A6.out).mono ?_
              (case side1 => repeat (first | exact (Kd.C_below HR219_7.out HB.out) | (with_reducible refine Kd.C_alloc ?_ _) | (with_reducible refine Kd.C_drewN ?_ _) | (with_reducible refine Kd.C_drew ?_)))
              (case side2 => exact HC219_7.out)
              rintro e w13 ⟨rfl, hb⟩
              refine ⟨_, rfl, ?_⟩
              have n0_ := Aside0.mk (blk_below (g := gb220) (o := .cells #[.int .i64 ((rd_T78 l0 x8_1).f0), .int .i64 ((rd_T78 l0 x8_1).f1), .string ((rd_T78 l0 x8_1).f2), .string ((rd_T78 l0 x8_1).f3), .bool ((rd_T78 l0 x8_1).f4), .bool ((rd_T78 l0 x8_1).f5), .slice A219_6 ((rd_T78 l0 x8_1).f6).length c219_6, .slice A219_7 ((rd_T78 l0 x8_1).f7).length c219_7] 78 (0, 0)) (by (with_reducible repeat (first | refine blk_drewN ?_ _ | refine blk_drew ?_ | refine blk_alloc ?_ _)); exact BK220.out) hb)
              have n1_ := Aside0.mk (below_step (by repeat (first | (with_reducible first | exact HB.out | apply below_alloc | apply pw_below_drewN | apply below_drew1 | refine below_set ?_ GE220.out) | exact HB.out)) hb)
              clear BK220
              clear HB
              have BK220 := n0_
              have HB := n1_
              clear n0_ n1_
              (try clear hb)
              (try clear hb2)
              (try clear hk)
              (try clear hi)
              refine hK.out _ _ ⟨(blk_cell BK220.out 0).trans rfl, (blk_cell BK220.out 1).trans rfl, (blk_cell BK220.out 2).trans rfl, (blk_cell BK220.out 3).trans rfl, (blk_cell BK220.out 4).trans rfl, (blk_cell BK220.out 5).trans rfl, (blk_cell BK220.out 6).trans rfl, (blk_cell BK220.out 7).trans rfl⟩ (fun hHeld => ?_)
              clear hK K
              refine norm_ (a' := ?_) ?_ ?_
              rotate_left
              · show Act.put _ (some 18) _ = _
                simp only [Act.put, List.setIfInBounds_toArray, List.set_cons_zero, List.set_cons_succ, i64_w, i32_w]
                rfl
              refine pure_ (i := 7) (N := some 19) (v := ?_) (a' := ?_) #[true, true, true, true, true, true, true, true, false, false] rfl rfl (any_of HT_.out (by kernel_rfl)) (fun _ _ _ h => h) (Or.inl ⟨by rfl, ?_⟩) ?_ ?_
              rotate_left
              · intro w'
                go_simp
                with_reducible rfl
              rotate_left
              · simp only [Act.put, List.setIfInBounds_toArray, List.set_cons_zero, List.set_cons_succ, i64_w, i32_w]
                rfl
              refine pure_ (i := 8) (N := some 20) (v := ?_) (a' := ?_) #[true, true, true, true, true, true, true, true, true, false] rfl rfl (any_of HT_.out (by kernel_rfl)) (fun _ _ _ h => h) (Or.inl ⟨by rfl, ?_⟩) ?_ ?_
              rotate_left
              · intro w'
                go_simp
                with_reducible rfl
              rotate_left
              · simp only [Act.put, List.setIfInBounds_toArray, List.set_cons_zero, List.set_cons_succ, i64_w, i32_w]
                rfl
              refine pure_ (i := 9) (N := some 3) (v := ?_) (a' := ?_) #[true, true, true, true, true, true, true, true, true, true] rfl rfl (any_of HT_.out (by kernel_rfl)) (fun _ _ _ h => h) (Or.inl ⟨by rfl, ?_⟩) ?_ ?_
              rotate_left
              · intro w'
                go_simp
                with_reducible rfl
              rotate_left
              · simp only [Act.put, List.setIfInBounds_toArray, List.set_cons_zero, List.set_cons_succ, i64_w, i32_w]
                rfl
              refine done_ (done_of HT_.out (by kernel_rfl)) ?_
              have hcz14_0 : w13.cell? ⟨gb220, 0, none⟩ = some (.int .i64 ((rd_T78 l0 x8_1).f0)) := (blk_cell BK220.out 0).trans rfl
              have hcz14_1 : w13.cell? ⟨gb220, 1, none⟩ = some (.int .i64 ((rd_T78 l0 x8_1).f1)) := (blk_cell BK220.out 1).trans rfl
              have hcz14_2 : w13.cell? ⟨gb220, 2, none⟩ = some (.string ((rd_T78 l0 x8_1).f2)) := (blk_cell BK220.out 2).trans rfl
              have hcz14_3 : w13.cell? ⟨gb220, 3, none⟩ = some (.string ((rd_T78 l0 x8_1).f3)) := (blk_cell BK220.out 3).trans rfl
              have hcz14_4 : w13.cell? ⟨gb220, 4, none⟩ = some (.bool ((rd_T78 l0 x8_1).f4)) := (blk_cell BK220.out 4).trans rfl
              have hcz14_5 : w13.cell? ⟨gb220, 5, none⟩ = some (.bool ((rd_T78 l0 x8_1).f5)) := (blk_cell BK220.out 5).trans rfl
              have hcz14_6 : w13.cell? ⟨gb220, 6, none⟩ = some (.slice A219_6 ((rd_T78 l0 x8_1).f6).length c219_6) := (blk_cell BK220.out 6).trans rfl
              have hcz14_7 : w13.cell? ⟨gb220, 7, none⟩ = some (.slice A219_7 ((rd_T78 l0 x8_1).f7).length c219_7) := (blk_cell BK220.out 7).trans rfl
              have hfz14_0 := blk_frozen BK220.out 0
              have hfz14_1 := blk_frozen BK220.out 1
              have hfz14_2 := blk_frozen BK220.out 2
              have hfz14_3 := blk_frozen BK220.out 3
              have hfz14_4 := blk_frozen BK220.out 4
              have hfz14_5 := blk_frozen BK220.out 5
              have hfz14_6 := blk_frozen BK220.out 6
              have hfz14_7 := blk_frozen BK220.out 7
              try go_wp2
              go_roundg k1
              case measure => have := HK1.out; omega
              case rel => exact ⟨(wrap64 ((wrap64 (x3_1 + (wrap64 (t221 + t222)))) + 1)), (wrap64 (x8_1 + 1)), (by first | rfl | (simp; done) | (simp [*]; done)), (by first | rfl | (simp; done) | (simp [*]; done)), H', ⟨by have := HK1.out; omega⟩, ⟨by repeat (first | (with_reducible first | exact HB.out | apply below_alloc | apply pw_below_drewN | apply below_drew1 | refine below_set ?_ GE220.out) | exact HB.out)⟩⟩
            · rw [if_neg c7] at H
              have c7b0 : (((rd_T78 l0 x8_1).f0) == 1) = false := beq_eq_false_iff_ne.mpr c7
              have c7b1 : (((rd_T78 l0 x8_1).f0) != 1) = true := bne_iff_ne.mpr c7
              have H' := Aside0.mk H
              clear H
              have p219 : 0 ≤ (x8_1 : Int) := of_decide_eq_true (by first | (with_reducible assumption) | assumption)
              have q219 : x8_1 < (l0.length : Int) := of_decide_eq_true (by first | (with_reducible assumption) | assumption)
              obtain ⟨ad219, A219_6, c219_6, A219_7, c219_7, e219, hx219_0, hx219_1, hx219_2, hx219_3, hx219_4, hx219_5, hx219_6, hx219_7, hl219_6, hi219_6, hl219_7, hi219_7⟩ := at_T78 HR0.out x8_1 p219 q219
              cases e219
              replace hx219_0 := (HB.out.cell (World.block_lt_of_cell? w _ hx219_0)).trans hx219_0
              replace hx219_1 := (HB.out.cell (World.block_lt_of_cell? w _ hx219_1)).trans hx219_1
              replace hx219_2 := (HB.out.cell (World.block_lt_of_cell? w _ hx219_2)).trans hx219_2
              replace hx219_3 := (HB.out.cell (World.block_lt_of_cell? w _ hx219_3)).trans hx219_3
              replace hx219_4 := (HB.out.cell (World.block_lt_of_cell? w _ hx219_4)).trans hx219_4
              replace hx219_5 := (HB.out.cell (World.block_lt_of_cell? w _ hx219_5)).trans hx219_5
              replace hx219_6 := (HB.out.cell (World.block_lt_of_cell? w _ hx219_6)).trans hx219_6
              replace hx219_7 := (HB.out.cell (World.block_lt_of_cell? w _ hx219_7)).trans hx219_7
              have HR219_6 := Aside0.mk hi219_6
              have HC219_6 := Aside0.mk hl219_6
              clear hi219_6 hl219_6
              have HR219_7 := Aside0.mk hi219_7
              have HC219_7 := Aside0.mk hl219_7
              clear hi219_7 hl219_7
              replace p219 := eq_true p219
              replace q219 := eq_true q219
              try go_wp2_with (first | ((with_reducible refine gate_dst (N := 5) rfl ?_); refine box_event ?hg (N := 5) ?hd (cs := #[.int .i64 0, .int .i64 0, .string (⟨#[]⟩ : ByteArray), .string (⟨#[]⟩ : ByteArray), .bool false, .bool false, .slice none 0 0, .slice none 0 0]) (t := 78) ?hr ?_; (case hd => rfl); (case hg => rfl); (case hr => first | (go_simp; done) | (go_simp; rfl)); intro gb220 hg w15 hbox hb; have n0_ := Aside0.mk (below_step (by repeat (first | (with_reducible first | exact HB.out | apply below_alloc | apply pw_below_drewN | apply below_drew1) | exact HB.out)) hb); have n1_ := Aside0.mk (hbox); have n2_ := Aside0.mk ((by rw [hg]; exact (below_size (by repeat (first | (with_reducible first | exact HB.out | apply below_alloc | apply pw_below_drewN | apply below_drew1) | exact HB.out))) : w.heap.size ≤ gb220)); have n3_ := Aside0.mk ((by rw [hg]; exact (below_size (by repeat (first | (with_reducible first | exact HB.out | apply below_alloc | apply pw_below_drewN | apply below_drew1) | exact HB.out))) : w.heap.size ≤ gb220)); clear HB; have HB := n0_; have BK220 := n1_; have GW220 := n2_; have GE220 := n3_; clear n0_ n1_ n2_ n3_; clear hb hbox hg; have hcz16_0 : w15.cell? ⟨gb220, 0, none⟩ = some (.int .i64 0) := (blk_cell BK220.out 0).trans rfl; have hcz16_1 : w15.cell? ⟨gb220, 1, none⟩ = some (.int .i64 0) := (blk_cell BK220.out 1).trans rfl; have hcz16_2 : w15.cell? ⟨gb220, 2, none⟩ = some (.string (⟨#[]⟩ : ByteArray)) := (blk_cell BK220.out 2).trans rfl; have hcz16_3 : w15.cell? ⟨gb220, 3, none⟩ = some (.string (⟨#[]⟩ : ByteArray)) := (blk_cell BK220.out 3).trans rfl; have hcz16_4 : w15.cell? ⟨gb220, 4, none⟩ = some (.bool false) := (blk_cell BK220.out 4).trans rfl; have hcz16_5 : w15.cell? ⟨gb220, 5, none⟩ = some (.bool false) := (blk_cell BK220.out 5).trans rfl; have hcz16_6 : w15.cell? ⟨gb220, 6, none⟩ = some (.slice none 0 0) := (blk_cell BK220.out 6).trans rfl; have hcz16_7 : w15.cell? ⟨gb220, 7, none⟩ = some (.slice none 0 0) := (blk_cell BK220.out 7).trans rfl; have hfz16_0 := blk_frozen BK220.out 0; have hfz16_1 := blk_frozen BK220.out 1; have hfz16_2 := blk_frozen BK220.out 2; have hfz16_3 := blk_frozen BK220.out 3; have hfz16_4 := blk_frozen BK220.out 4; have hfz16_5 := blk_frozen BK220.out 5; have hfz16_6 := blk_frozen BK220.out 6; have hfz16_7 := blk_frozen BK220.out 7))
              have n0_ : Aside0 (((((((((w15.setCell ⟨gb220, 0, none⟩ (.int .i64 ((rd_T78 l0 x8_1).f0))).setCell ⟨gb220, 1, none⟩ (.int .i64 ((rd_T78 l0 x8_1).f1))).setCell ⟨gb220, 2, none⟩ (.string ((rd_T78 l0 x8_1).f2))).setCell ⟨gb220, 3, none⟩ (.string ((rd_T78 l0 x8_1).f3))).setCell ⟨gb220, 4, none⟩ (.bool ((rd_T78 l0 x8_1).f4))).setCell ⟨gb220, 5, none⟩ (.bool ((rd_T78 l0 x8_1).f5))).setCell ⟨gb220, 6, none⟩ (.slice A219_6 ((rd_T78 l0 x8_1).f6).length c219_6)).setCell ⟨gb220, 7, none⟩ (.slice A219_7 ((rd_T78 l0 x8_1).f7).length c219_7)).heap[gb220]? = some (.cells #[.int .i64 ((rd_T78 l0 x8_1).f0), .int .i64 ((rd_T78 l0 x8_1).f1), .string ((rd_T78 l0 x8_1).f2), .string ((rd_T78 l0 x8_1).f3), .bool ((rd_T78 l0 x8_1).f4), .bool ((rd_T78 l0 x8_1).f5), .slice A219_6 ((rd_T78 l0 x8_1).f6).length c219_6, .slice A219_7 ((rd_T78 l0 x8_1).f7).length c219_7] 78 (0, 0))) := ⟨by (with_reducible repeat (first | refine blk_drewN ?_ _ | refine blk_drew ?_ | refine blk_alloc ?_ _)); refine blk_put (cs := #[.int .i64 ((rd_T78 l0 x8_1).f0), .int .i64 ((rd_T78 l0 x8_1).f1), .string ((rd_T78 l0 x8_1).f2), .string ((rd_T78 l0 x8_1).f3), .bool ((rd_T78 l0 x8_1).f4), .bool ((rd_T78 l0 x8_1).f5), .slice A219_6 ((rd_T78 l0 x8_1).f6).length c219_6, .slice none 0 0]) ?_ 7 _ rfl; (with_reducible repeat (first | refine blk_drewN ?_ _ | refine blk_drew ?_ | refine blk_alloc ?_ _)); refine blk_put (cs := #[.int .i64 ((rd_T78 l0 x8_1).f0), .int .i64 ((rd_T78 l0 x8_1).f1), .string ((rd_T78 l0 x8_1).f2), .string ((rd_T78 l0 x8_1).f3), .bool ((rd_T78 l0 x8_1).f4), .bool ((rd_T78 l0 x8_1).f5), .slice none 0 0, .slice none 0 0]) ?_ 6 _ rfl; (with_reducible repeat (first | refine blk_drewN ?_ _ | refine blk_drew ?_ | refine blk_alloc ?_ _)); refine blk_put (cs := #[.int .i64 ((rd_T78 l0 x8_1).f0), .int .i64 ((rd_T78 l0 x8_1).f1), .string ((rd_T78 l0 x8_1).f2), .string ((rd_T78 l0 x8_1).f3), .bool ((rd_T78 l0 x8_1).f4), .bool false, .slice none 0 0, .slice none 0 0]) ?_ 5 _ rfl; (with_reducible repeat (first | refine blk_drewN ?_ _ | refine blk_drew ?_ | refine blk_alloc ?_ _)); refine blk_put (cs := #[.int .i64 ((rd_T78 l0 x8_1).f0), .int .i64 ((rd_T78 l0 x8_1).f1), .string ((rd_T78 l0 x8_1).f2), .string ((rd_T78 l0 x8_1).f3), .bool false, .bool false, .slice none 0 0, .slice none 0 0]) ?_ 4 _ rfl; (with_reducible repeat (first | refine blk_drewN ?_ _ | refine blk_drew ?_ | refine blk_alloc ?_ _)); refine blk_put (cs := #[.int .i64 ((rd_T78 l0 x8_1).f0), .int .i64 ((rd_T78 l0 x8_1).f1), .string ((rd_T78 l0 x8_1).f2), .string (⟨#[]⟩ : ByteArray), .bool false, .bool false, .slice none 0 0, .slice none 0 0]) ?_ 3 _ rfl; (with_reducible repeat (first | refine blk_drewN ?_ _ | refine blk_drew ?_ | refine blk_alloc ?_ _)); refine blk_put (cs := #[.int .i64 ((rd_T78 l0 x8_1).f0), .int .i64 ((rd_T78 l0 x8_1).f1), .string (⟨#[]⟩ : ByteArray), .string (⟨#[]⟩ : ByteArray), .bool false, .bool false, .slice none 0 0, .slice none 0 0]) ?_ 2 _ rfl; (with_reducible repeat (first | refine blk_drewN ?_ _ | refine blk_drew ?_ | refine blk_alloc ?_ _)); refine blk_put (cs := #[.int .i64 ((rd_T78 l0 x8_1).f0), .int .i64 0, .string (⟨#[]⟩ : ByteArray), .string (⟨#[]⟩ : ByteArray), .bool false, .bool false, .slice none 0 0, .slice none 0 0]) ?_ 1 _ rfl; (with_reducible repeat (first | refine blk_drewN ?_ _ | refine blk_drew ?_ | refine blk_alloc ?_ _)); refine blk_put (cs := #[.int .i64 0, .int .i64 0, .string (⟨#[]⟩ : ByteArray), .string (⟨#[]⟩ : ByteArray), .bool false, .bool false, .slice none 0 0, .slice none 0 0]) ?_ 0 _ rfl; (with_reducible repeat (first | refine blk_drewN ?_ _ | refine blk_drew ?_ | refine blk_alloc ?_ _)); exact BK220.out⟩
              have n1_ : Aside0 (Below w.heap.size w ((((((((w15.setCell ⟨gb220, 0, none⟩ (.int .i64 ((rd_T78 l0 x8_1).f0))).setCell ⟨gb220, 1, none⟩ (.int .i64 ((rd_T78 l0 x8_1).f1))).setCell ⟨gb220, 2, none⟩ (.string ((rd_T78 l0 x8_1).f2))).setCell ⟨gb220, 3, none⟩ (.string ((rd_T78 l0 x8_1).f3))).setCell ⟨gb220, 4, none⟩ (.bool ((rd_T78 l0 x8_1).f4))).setCell ⟨gb220, 5, none⟩ (.bool ((rd_T78 l0 x8_1).f5))).setCell ⟨gb220, 6, none⟩ (.slice A219_6 ((rd_T78 l0 x8_1).f6).length c219_6)).setCell ⟨gb220, 7, none⟩ (.slice A219_7 ((rd_T78 l0 x8_1).f7).length c219_7))) := ⟨by repeat (first | (with_reducible first | exact HB.out | apply below_alloc | apply pw_below_drewN | apply below_drew1 | refine below_set ?_ GE220.out) | exact HB.out)⟩
              (try clear BK220)
              (try clear HB)
              generalize ((((((((w15.setCell ⟨gb220, 0, none⟩ (.int .i64 ((rd_T78 l0 x8_1).f0))).setCell ⟨gb220, 1, none⟩ (.int .i64 ((rd_T78 l0 x8_1).f1))).setCell ⟨gb220, 2, none⟩ (.string ((rd_T78 l0 x8_1).f2))).setCell ⟨gb220, 3, none⟩ (.string ((rd_T78 l0 x8_1).f3))).setCell ⟨gb220, 4, none⟩ (.bool ((rd_T78 l0 x8_1).f4))).setCell ⟨gb220, 5, none⟩ (.bool ((rd_T78 l0 x8_1).f5))).setCell ⟨gb220, 6, none⟩ (.slice A219_6 ((rd_T78 l0 x8_1).f6).length c219_6)).setCell ⟨gb220, 7, none⟩ (.slice A219_7 ((rd_T78 l0 x8_1).f7).length c219_7)) = w17 at n0_ n1_ ⊢
              have BK220 := n0_
              have HB := n1_
              clear n0_ n1_
              have n0_ := Aside0.mk (blk_drew BK220.out)
              have n1_ := Aside0.mk (below_drew1 HB.out)
              clear BK220
              clear HB
              have BK220 := n0_
              have HB := n1_
              clear n0_ n1_
              refine start_ (n := 10) (S := fun w' => w'.cell? ⟨gb220, 0, none⟩ = some (.int .i64 ((rd_T78 l0 x8_1).f0)) ∧ w'.cell? ⟨gb220, 1, none⟩ = some (.int .i64 ((rd_T78 l0 x8_1).f1)) ∧ w'.cell? ⟨gb220, 2, none⟩ = some (.string ((rd_T78 l0 x8_1).f2)) ∧ w'.cell? ⟨gb220, 3, none⟩ = some (.string ((rd_T78 l0 x8_1).f3)) ∧ w'.cell? ⟨gb220, 4, none⟩ = some (.bool ((rd_T78 l0 x8_1).f4)) ∧ w'.cell? ⟨gb220, 5, none⟩ = some (.bool ((rd_T78 l0 x8_1).f5)) ∧ w'.cell? ⟨gb220, 6, none⟩ = some (.slice A219_6 ((rd_T78 l0 x8_1).f6).length c219_6) ∧ w'.cell? ⟨gb220, 7, none⟩ = some (.slice A219_7 ((rd_T78 l0 x8_1).f7).length c219_7)) (ds := []) #[false, false, false, false, false, false, false, false, false, false] (by kernel_rfl) rfl rfl ⟨(blk_cell BK220.out 0).trans rfl, (blk_cell BK220.out 1).trans rfl, (blk_cell BK220.out 2).trans rfl, (blk_cell BK220.out 3).trans rfl, (blk_cell BK220.out 4).trans rfl, (blk_cell BK220.out 5).trans rfl, (blk_cell BK220.out 6).trans rfl, (blk_cell BK220.out 7).trans rfl⟩ (fun hHeld => ?_); refine with_tabW compile_prints.tab5 compile_prints.bits5 (fun HT_ HW_ => ?_)
              generalize w17.drew = w18 at BK220 HB hHeld ⊢
              refine pure_ (i := 0) (N := some 12) (v := ?_) (a' := ?_) #[true, false, false, false, false, false, false, false, false, false] rfl rfl (any_of HT_.out (by kernel_rfl)) (fun _ _ _ h => h) (Or.inl ⟨by rfl, ?_⟩) ?_ ?_
              rotate_left
              · intro w'
                go_simp
                with_reducible rfl
              rotate_left
              · simp only [Act.put, List.setIfInBounds_toArray, List.set_cons_zero, List.set_cons_succ, i64_w, i32_w]
                rfl
              refine pure_ (i := 1) (N := some 13) (v := ?_) (a' := ?_) #[true, true, false, false, false, false, false, false, false, false] rfl rfl (any_of HT_.out (by kernel_rfl)) (fun _ _ _ h => h) (Or.inl ⟨by rfl, ?_⟩) ?_ ?_
              rotate_left
              · intro w'
                go_simp
                with_reducible rfl
              rotate_left
              · simp only [Act.put, List.setIfInBounds_toArray, List.set_cons_zero, List.set_cons_succ, i64_w, i32_w]
                rfl
              refine pure_ (i := 4) (N := some 16) (v := ?_) (a' := ?_) #[true, true, false, false, true, false, false, false, false, false] rfl rfl (any_of HT_.out (by kernel_rfl)) (fun _ _ _ h => h) (Or.inl ⟨by rfl, ?_⟩) ?_ ?_
              rotate_left
              · intro w'
                go_simp
                with_reducible rfl
              rotate_left
              · simp only [Act.put, List.setIfInBounds_toArray, List.set_cons_zero, List.set_cons_succ, i64_w, i32_w]
                rfl
              refine take_ (i := 2) (N := some 14) (v := ?_) (a' := ?_) #[true, true, true, false, true, false, false, false, false, false] rfl rfl (take_ofW HT_.out HW_.out (by kernel_rfl)) (fun _ _ _ h => h) (Or.inl ⟨by rfl, ?_⟩) hHeld ?_ ?_
              rotate_left
              · rintro w' ⟨s0, s1, s2, s3, s4, s5, s6, s7⟩
                go_simp
                with_reducible rfl
              rotate_left
              · simp only [Act.put, List.setIfInBounds_toArray, List.set_cons_zero, List.set_cons_succ, i64_w, i32_w]
                rfl
              refine take_ (i := 5) (N := some 17) (v := ?_) (a' := ?_) #[true, true, true, false, true, true, false, false, false, false] rfl rfl (take_ofW HT_.out HW_.out (by kernel_rfl)) (fun _ _ _ h => h) (Or.inl ⟨by rfl, ?_⟩) hHeld ?_ ?_
              rotate_left
              · rintro w' ⟨s0, s1, s2, s3, s4, s5, s6, s7⟩
                go_simp
                with_reducible rfl
              rotate_left
              · simp only [Act.put, List.setIfInBounds_toArray, List.set_cons_zero, List.set_cons_succ, i64_w, i32_w]
                rfl
              refine one_ (i := 3) (N := some 15) #[true, true, true, true, true, true, false, false, false, false] rfl rfl (one_of HT_.out (by kernel_rfl)) (by decide) (fun K hK => ?_)
              refine goes_ Tryd.func56 (by kernel_rfl) rfl #[.slice A219_6 ((rd_T78 l0 x8_1).f6).length c219_6] (by rfl) rfl rfl (by (try simp only [List.map_toArray, List.map_cons, List.map_nil]); first | done | rfl | (simp only [List.length_drop, List.length_take]; rfl)) ?_
              with_reducible refine (ih k1 (by have := HK1.out; omega) _ _ ((rd_T78 l0 x8_1).f6) t221 _ ?side1 ?side2 A5.out).mono ?_
              (case side1 => repeat (first | exact (Kd.C_below HR219_6.out HB.out) | (with_reducible refine Kd.C_alloc ?_ _) | (with_reducible refine Kd.C_drewN ?_ _) | (with_reducible refine Kd.C_drew ?_)))
              (case side2 => exact HC219_6.out)
              rintro e w19 ⟨rfl, hb⟩
              refine ⟨_, rfl, ?_⟩
              have n0_ := Aside0.mk (blk_below (g := gb220) (o := .cells #[.int .i64 ((rd_T78 l0 x8_1).f0), .int .i64 ((rd_T78 l0 x8_1).f1), .string ((rd_T78 l0 x8_1).f2), .string ((rd_T78 l0 x8_1).f3), .bool ((rd_T78 l0 x8_1).f4), .bool ((rd_T78 l0 x8_1).f5), .slice A219_6 ((rd_T78 l0 x8_1).f6).length c219_6, .slice A219_7 ((rd_T78 l0 x8_1).f7).length c219_7] 78 (0, 0)) (by (with_reducible repeat (first | refine blk_drewN ?_ _ | refine blk_drew ?_ | refine blk_alloc ?_ _)); exact BK220.out) hb)
              have n1_ := Aside0.mk (below_step (by repeat (first | (with_reducible first | exact HB.out | apply below_alloc | apply pw_below_drewN | apply below_drew1 | refine below_set ?_ GE220.out) | exact HB.out)) hb)
              clear BK220
              clear HB
              have BK220 := n0_
              have HB := n1_
              clear n0_ n1_
              (try clear hb)
              (try clear hb2)
              (try clear hk)
              (try clear hi)
              refine hK.out _ _ ⟨(blk_cell BK220.out 0).trans rfl, (blk_cell BK220.out 1).trans rfl, (blk_cell BK220.out 2).trans rfl, (blk_cell BK220.out 3).trans rfl, (blk_cell BK220.out 4).trans rfl, (blk_cell BK220.out 5).trans rfl, (blk_cell BK220.out 6).trans rfl, (blk_cell BK220.out 7).trans rfl⟩ (fun hHeld => ?_)
              clear hK K
              refine norm_ (a' := ?_) ?_ ?_
              rotate_left
              · show Act.put _ (some 15) _ = _
                simp only [Act.put, List.setIfInBounds_toArray, List.set_cons_zero, List.set_cons_succ, i64_w, i32_w]
                rfl
              refine one_ (i := 6) (N := some 18) #[true, true, true, true, true, true, true, false, false, false] rfl rfl (one_of HT_.out (by kernel_rfl)) (by decide) (fun K hK => ?_)
              refine goes_ Tryd.func56 (by kernel_rfl) rfl #[.slice A219_7 ((rd_T78 l0 x8_1).f7).length c219_7] (by rfl) rfl rfl (by (try simp only [List.map_toArray, List.map_cons, List.map_nil]); first | done | rfl | (simp only [List.length_drop, List.length_take]; rfl)) ?_
              with_reducible refine (ih k1 (by have := HK1.out; omega) _ _ ((rd_T78 l0 x8_1).f7) t222 _ ?side1 ?side2 A6.out).mono ?_
              (case side1 => repeat (first | exact (Kd.C_below HR219_7.out HB.out) | (with_reducible refine Kd.C_alloc ?_ _) | (with_reducible refine Kd.C_drewN ?_ _) | (with_reducible refine Kd.C_drew ?_)))
              (case side2 => exact HC219_7.out)
              rintro e w20 ⟨rfl, hb⟩
              refine ⟨_, rfl, ?_⟩
              have n0_ := Aside0.mk (blk_below (g := gb220) (o := .cells #[.int .i64 ((rd_T78 l0 x8_1).f0), .int .i64 ((rd_T78 l0 x8_1).f1), .string ((rd_T78 l0 x8_1).f2), .string ((rd_T78 l0 x8_1).f3), .bool ((rd_T78 l0 x8_1).f4), .bool ((rd_T78 l0 x8_1).f5), .slice A219_6 ((rd_T78 l0 x8_1).f6).length c219_6, .slice A219_7 ((rd_T78 l0 x8_1).f7).length c219_7] 78 (0, 0)) (by (with_reducible repeat (first | refine blk_drewN ?_ _ | refine blk_drew ?_ | refine blk_alloc ?_ _)); exact BK220.out) hb)
              have n1_ := Aside0.mk (below_step (by repeat (first | (with_reducible first | exact HB.out | apply below_alloc | apply pw_below_drewN | apply below_drew1 | refine below_set ?_ GE220.out) | exact HB.out)) hb)
              clear BK220
              clear HB
              have BK220 := n0_
              have HB := n1_
              clear n0_ n1_
              (try clear hb)
              (try clear hb2)
              (try clear hk)
              (try clear hi)
              refine hK.out _ _ ⟨(blk_cell BK220.out 0).trans rfl, (blk_cell BK220.out 1).trans rfl, (blk_cell BK220.out 2).trans rfl, (blk_cell BK220.out 3).trans rfl, (blk_cell BK220.out 4).trans rfl, (blk_cell BK220.out 5).trans rfl, (blk_cell BK220.out 6).trans rfl, (blk_cell BK220.out 7).trans rfl⟩ (fun hHeld => ?_)
              clear hK K
              refine norm_ (a' := ?_) ?_ ?_
              rotate_left
              · show Act.put _ (some 18) _ = _
                simp only [Act.put, List.setIfInBounds_toArray, List.set_cons_zero, List.set_cons_succ, i64_w, i32_w]
                rfl
              refine pure_ (i := 7) (N := some 19) (v := ?_) (a' := ?_) #[true, true, true, true, true, true, true, true, false, false] rfl rfl (any_of HT_.out (by kernel_rfl)) (fun _ _ _ h => h) (Or.inl ⟨by rfl, ?_⟩) ?_ ?_
              rotate_left
              · intro w'
                go_simp
                with_reducible rfl
              rotate_left
              · simp only [Act.put, List.setIfInBounds_toArray, List.set_cons_zero, List.set_cons_succ, i64_w, i32_w]
                rfl
              refine pure_ (i := 8) (N := some 20) (v := ?_) (a' := ?_) #[true, true, true, true, true, true, true, true, true, false] rfl rfl (any_of HT_.out (by kernel_rfl)) (fun _ _ _ h => h) (Or.inl ⟨by rfl, ?_⟩) ?_ ?_
              rotate_left
              · intro w'
                go_simp
                with_reducible rfl
              rotate_left
              · simp only [Act.put, List.setIfInBounds_toArray, List.set_cons_zero, List.set_cons_succ, i64_w, i32_w]
                rfl
              refine pure_ (i := 9) (N := some 3) (v := ?_) (a' := ?_) #[true, true, true, true, true, true, true, true, true, true] rfl rfl (any_of HT_.out (by kernel_rfl)) (fun _ _ _ h => h) (Or.inl ⟨by rfl, ?_⟩) ?_ ?_
              rotate_left
              · intro w'
                go_simp
                with_reducible rfl
              rotate_left
              · simp only [Act.put, List.setIfInBounds_toArray, List.set_cons_zero, List.set_cons_succ, i64_w, i32_w]
                rfl
              refine done_ (done_of HT_.out (by kernel_rfl)) ?_
              have hcz21_0 : w20.cell? ⟨gb220, 0, none⟩ = some (.int .i64 ((rd_T78 l0 x8_1).f0)) := (blk_cell BK220.out 0).trans rfl
              have hcz21_1 : w20.cell? ⟨gb220, 1, none⟩ = some (.int .i64 ((rd_T78 l0 x8_1).f1)) := (blk_cell BK220.out 1).trans rfl
              have hcz21_2 : w20.cell? ⟨gb220, 2, none⟩ = some (.string ((rd_T78 l0 x8_1).f2)) := (blk_cell BK220.out 2).trans rfl
              have hcz21_3 : w20.cell? ⟨gb220, 3, none⟩ = some (.string ((rd_T78 l0 x8_1).f3)) := (blk_cell BK220.out 3).trans rfl
              have hcz21_4 : w20.cell? ⟨gb220, 4, none⟩ = some (.bool ((rd_T78 l0 x8_1).f4)) := (blk_cell BK220.out 4).trans rfl
              have hcz21_5 : w20.cell? ⟨gb220, 5, none⟩ = some (.bool ((rd_T78 l0 x8_1).f5)) := (blk_cell BK220.out 5).trans rfl
              have hcz21_6 : w20.cell? ⟨gb220, 6, none⟩ = some (.slice A219_6 ((rd_T78 l0 x8_1).f6).length c219_6) := (blk_cell BK220.out 6).trans rfl
              have hcz21_7 : w20.cell? ⟨gb220, 7, none⟩ = some (.slice A219_7 ((rd_T78 l0 x8_1).f7).length c219_7) := (blk_cell BK220.out 7).trans rfl
              have hfz21_0 := blk_frozen BK220.out 0
              have hfz21_1 := blk_frozen BK220.out 1
              have hfz21_2 := blk_frozen BK220.out 2
              have hfz21_3 := blk_frozen BK220.out 3
              have hfz21_4 := blk_frozen BK220.out 4
              have hfz21_5 := blk_frozen BK220.out 5
              have hfz21_6 := blk_frozen BK220.out 6
              have hfz21_7 := blk_frozen BK220.out 7
              try go_wp2
              go_roundg k1
              case measure => have := HK1.out; omega
              case rel => exact ⟨(wrap64 (x3_1 + (wrap64 (t221 + t222)))), (wrap64 (x8_1 + 1)), (by first | rfl | (simp; done) | (simp [*]; done)), (by first | rfl | (simp; done) | (simp [*]; done)), H', ⟨by have := HK1.out; omega⟩, ⟨by repeat (first | (with_reducible first | exact HB.out | apply below_alloc | apply pw_below_drewN | apply below_drew1 | refine below_set ?_ GE220.out) | exact HB.out)⟩⟩
          · rw [if_neg c4] at H
            exact absurd H (by simp)
        · rw [if_neg c3] at H
          exact absurd H (by simp)
      · rw [if_neg c2] at H
        have c2b0 : decide (x8_1 < (l0.length : Int)) = false := decide_eq_false c2
        clear c2
        obtain rfl := Option.some.inj H
        go_wp2
        go_ret
        exact ⟨by first | rfl | (simp [errW_none, errW_some] <;> rfl) | (simp [*, errW_none, errW_some] <;> rfl), by repeat (first | (with_reducible first | exact HB.out | apply below_alloc | apply pw_below_drewN | apply below_drew1) | exact HB.out)⟩
end Go.Proofs.YtkpnfejfbmandaaDoor.Px
