import Derived.Test.YtgdpojleejdfaaaDoorPOPx0
import Derived.Test.YtgdpojleejdfaaaDoorPOPx6
namespace Go.Proofs.YtgdpojleejdfaaaDoor.Px
open Go.RowKit Go.Proofs.YtgdpojleejdfaaaDoorW.PrintWords Go.Proofs.YtgdpojleejdfaaaDoorW.PrintLast Go.Proofs.YtgdpojleejdfaaaDoorW.PrintMore
attribute [local go_sem] max2_int min2_int max_two min_two max_three min_three max_four min_four   -- for this text's walks alone
set_option linter.unusedVariables false
set_option linter.unusedSimpArgs false
mutual
def tmplpipelaw12_weight.j0 : Nat → List (S39) → Int → Bool → Option (Int)
  | 0, _, _, _ => none
  | k + 1, x0, x1, x14 => if x14 = true then (some 10001) else (tmplpipelaw12_weight.l0 k x1 0 x0 (x0.length : Int) 0)
def tmplpipelaw12_weight.l0 : Nat → Int → Int → List (S39) → Int → Int → Option (Int)
  | 0, _, _, _, _, _ => none
  | k + 1, x1, x5, x15, x16, x17 => if x17 < x16 then (if 0 ≤ x17 then (if x17 < (x15.length : Int) then ((tmplpipelaw12_weight.f k ((rd_T39 x15 x17).f6) (wrap64 (x1 + 1))).bind fun t242 => ((tmplpipelaw12_weight.f k ((rd_T39 x15 x17).f7) (wrap64 (x1 + 1))).bind fun t243 => (if (wrap64 (x5 + (wrap64 ((wrap64 (1 + t242)) + t243)))) > 10000 then (some 10001) else (tmplpipelaw12_weight.l0 k x1 (wrap64 (x5 + (wrap64 ((wrap64 (1 + t242)) + t243)))) x15 x16 (wrap64 (x17 + 1)))))) else (none)) else (none)) else (some x5)
def tmplpipelaw12_weight.f : Nat → List (S39) → Int → Option (Int)
  | 0, _, _ => none
  | k + 1, l0, a1 => if a1 > 200 then (tmplpipelaw12_weight.j0 k l0 a1 true) else (tmplpipelaw12_weight.j0 k l0 a1 (decide ((l0.length : Int) > 1000)))
end
def tmplpipelaw12_weight.T7 : Bool × List (List Nat × List Nat) := (true, [([], []), ([], []), ([1], [1]), ([], []), ([3], [3]), ([2, 4], [2, 4]), ([5], [5]), ([], []), ([7], [7]), ([], []), ([9], [9]), ([8, 10, 5], [8, 10]), ([6, 11], [6, 11]), ([0, 12], [0, 12]), ([13, 11, 0, 1, 2, 3, 4, 5, 6, 7, 8, 9, 10, 11, 12, 13], [0, 13])])
def tmplpipelaw12_weight.B7 : List Nat := [0, 0, 2, 0, 8, 30, 62, 0, 128, 0, 512, 1982, 4094, 8191, 16383]
theorem tmplpipelaw12_weight.tab7 : rtab .any (opsOf Tryd.f52 7) = tmplpipelaw12_weight.T7 := by kernel_rfl
theorem tmplpipelaw12_weight.bits7 : waitsOk tmplpipelaw12_weight.T7.2 tmplpipelaw12_weight.B7 = true := by kernel_rfl
set_option maxHeartbeats 8000000 in
set_option maxRecDepth 100000 in
theorem tmplpipelaw12_weight.calls (k : Nat) : ∀ (A0 : Option Addr) (c0 : Nat) (l0 : List (S39)) (a1 : Int) (r : Int) (w : World) (hr0 : Kd.C k39 w A0 l0.length l0) (hc0 : l0.length ≤ c0) (h : tmplpipelaw12_weight.f k l0 a1 = some r),
    Calls Tryd.prog 52 #[.slice A0 l0.length c0, .int .i64 a1] w fun e w' => e = .returned (.int .i64 r) ∧ Below w.heap.size w w' := by
  induction k using Nat.strongRecOn with
  | _ k ih =>
  intro A0 c0 l0 a1 r w hr0 hc0 h
  cases k with
  | zero => exact absurd h (by simp [tmplpipelaw12_weight.f])
  | succ k =>
  simp only [tmplpipelaw12_weight.f] at h
  have hu39 := Tryd.underlying39
  have HR0 := Aside0.mk hr0
  have HC0 := Aside0.mk hc0
  clear hr0 hc0
  have HB := Aside0.mk (Below.refl w.heap.size w)
  have H : (if a1 > 200 then (tmplpipelaw12_weight.j0 k l0 a1 true) else (tmplpipelaw12_weight.j0 k l0 a1 (decide ((l0.length : Int) > 1000)))) = some r := h
  clear h
  have HC3 := Aside0.mk H
  clear H
  go_enter Tryd.func52, Tryd.ntmps52
  go_upto_region 1 with (fail)
  go_cut [14] (fun v14 wc => ∃ (kq : Nat) (x14_2 : Bool), v14 = .bool x14_2 ∧ Aside0 (tmplpipelaw12_weight.j0 kq l0 a1 x14_2 = some r) ∧ Aside0 (kq ≤ k) ∧ Aside0 (Below w.heap.size w wc))
  case first =>
    have H := HC3.out
    clear HC3
    by_cases c4 : a1 > 200
    · rw [if_pos c4] at H
      have c4b0 : decide (200 < a1) = true := decide_eq_true c4
      clear c4
      (first | rw [c4b0] | (simp only [i64_w, i32_w]; rw [c4b0]) | skip)
      have H' := Aside0.mk H
      clear H
      go_wp2
      go_meet
      case rel => exact ⟨_, (true), (by first | rfl | (simp; done) | (simp [*]; done)), H', ⟨by first | omega | exact Nat.le_refl _⟩, ⟨by repeat (first | (with_reducible first | exact HB.out | apply below_alloc | apply pw_below_drewN | apply below_drew1) | exact HB.out)⟩⟩
    · rw [if_neg c4] at H
      have c4b0 : decide (200 < a1) = false := decide_eq_false c4
      clear c4
      (first | rw [c4b0] | (simp only [i64_w, i32_w]; rw [c4b0]) | skip)
      have H' := Aside0.mk H
      clear H
      go_wp2
      go_meet
      case rel => exact ⟨_, (decide ((l0.length : Int) > 1000)), (by first | rfl | (simp; done) | (simp [*]; done)), H', ⟨by first | omega | exact Nat.le_refl _⟩, ⟨by repeat (first | (with_reducible first | exact HB.out | apply below_alloc | apply pw_below_drewN | apply below_drew1) | exact HB.out)⟩⟩
  case rest =>
    clear HC3
    try clear p2
    try clear c4
    try clear c4b0
    obtain ⟨kq, x14_2, rfl, HA, HJ2, HB⟩ := hcut
    cases kq with
    | zero => exact absurd HA.out (by simp [tmplpipelaw12_weight.j0])
    | succ kj2 =>
      have H := HA.out
      clear HA
      simp only [tmplpipelaw12_weight.j0] at H
      by_cases c5 : x14_2 = true
      · subst c5
        have H1 : (some 10001) = some r := by rw [if_pos rfl] at H; exact H
        clear H
        have H := H1
        clear H1
        obtain rfl := Option.some.inj H
        go_wp2
        go_ret
        exact ⟨by first | rfl | (simp [errW_none, errW_some] <;> rfl) | (simp [*, errW_none, errW_some] <;> rfl), by repeat (first | (with_reducible first | exact HB.out | apply below_alloc | apply pw_below_drewN | apply below_drew1) | exact HB.out)⟩
      · replace c5 := Bool.eq_false_iff.mpr c5
        subst c5
        have H1 : (tmplpipelaw12_weight.l0 kj2 a1 0 l0 (l0.length : Int) 0) = some r := by rw [if_neg (show ¬ (false = true) by decide)] at H; exact H
        clear H
        have H := H1
        clear H1
        have H' := Aside0.mk H
        clear H
        go_wp2
        go_loopg [5, 17] kj2 (fun kq v5 v17 w' => ∃ (x5_2 : Int) (x17_2 : Int), v5 = .int .i64 x5_2 ∧ v17 = .int .i64 x17_2 ∧ Aside0 (tmplpipelaw12_weight.l0 kq a1 x5_2 l0 (l0.length : Int) x17_2 = some r) ∧ Aside0 (kq ≤ kj2) ∧ Aside0 (Below w.heap.size w w'))
        case atStart => exact ⟨(0), (0), (by first | rfl | (simp; done) | (simp [*]; done)), (by first | rfl | (simp; done) | (simp [*]; done)), H', ⟨Nat.le_refl _⟩, ⟨by repeat (first | (with_reducible first | exact HB.out | apply below_alloc | apply pw_below_drewN | apply below_drew1) | exact HB.out)⟩⟩
        case round =>
          clear H'
          try clear p2
          try clear c4
          try clear c4b0
          try clear c5
          try clear p2
          obtain ⟨x5_2, x17_2, rfl, rfl, HA, HK2, HB⟩ := hrel
          cases gk with
          | zero => exact absurd HA.out (by simp [tmplpipelaw12_weight.l0])
          | succ k2 =>
            have H := HA.out
            clear HA
            simp only [tmplpipelaw12_weight.l0] at H
            by_cases c6 : x17_2 < (l0.length : Int)
            · rw [if_pos c6] at H
              have c6b0 : decide (x17_2 < (l0.length : Int)) = true := decide_eq_true c6
              clear c6
              by_cases c7 : 0 ≤ x17_2
              · rw [if_pos c7] at H
                have c7b0 : decide (0 ≤ x17_2) = true := decide_eq_true c7
                clear c7
                by_cases c8 : x17_2 < (l0.length : Int)
                · rw [if_pos c8] at H
                  have c8b0 : decide (x17_2 < (l0.length : Int)) = true := decide_eq_true c8
                  clear c8
                  replace H := Option.bind_eq_some_iff.mp H
                  obtain ⟨t242, A90, H⟩ := H
                  replace H : ((tmplpipelaw12_weight.f k2 ((rd_T39 l0 x17_2).f7) (wrap64 (a1 + 1))).bind fun t243 => (if (wrap64 (x5_2 + (wrap64 ((wrap64 (1 + t242)) + t243)))) > 10000 then (some 10001) else (tmplpipelaw12_weight.l0 k2 a1 (wrap64 (x5_2 + (wrap64 ((wrap64 (1 + t242)) + t243)))) l0 (l0.length : Int) (wrap64 (x17_2 + 1))))) = some r := H
                  have A9 := Aside0.mk A90
                  clear A90
                  replace H := Option.bind_eq_some_iff.mp H
                  obtain ⟨t243, A100, H⟩ := H
                  replace H : (if (wrap64 (x5_2 + (wrap64 ((wrap64 (1 + t242)) + t243)))) > 10000 then (some 10001) else (tmplpipelaw12_weight.l0 k2 a1 (wrap64 (x5_2 + (wrap64 ((wrap64 (1 + t242)) + t243)))) l0 (l0.length : Int) (wrap64 (x17_2 + 1)))) = some r := H
                  have A10 := Aside0.mk A100
                  clear A100
                  by_cases c11 : (wrap64 (x5_2 + (wrap64 ((wrap64 (1 + t242)) + t243)))) > 10000
                  · rw [if_pos c11] at H
                    have c11b0 : decide (10000 < (wrap64 (x5_2 + (wrap64 ((wrap64 (1 + t242)) + t243))))) = true := decide_eq_true c11
                    clear c11
                    obtain rfl := Option.some.inj H
                    have p240 : 0 ≤ (x17_2 : Int) := of_decide_eq_true (by first | (with_reducible assumption) | assumption)
                    have q240 : x17_2 < (l0.length : Int) := of_decide_eq_true (by first | (with_reducible assumption) | assumption)
                    obtain ⟨ad240, A240_6, c240_6, A240_7, c240_7, e240, hx240_0, hx240_1, hx240_2, hx240_3, hx240_4, hx240_5, hx240_6, hx240_7, hl240_6, hi240_6, hl240_7, hi240_7⟩ := at_T39 HR0.out x17_2 p240 q240
                    cases e240
                    replace hx240_0 := (HB.out.cell (World.block_lt_of_cell? w _ hx240_0)).trans hx240_0
                    replace hx240_1 := (HB.out.cell (World.block_lt_of_cell? w _ hx240_1)).trans hx240_1
                    replace hx240_2 := (HB.out.cell (World.block_lt_of_cell? w _ hx240_2)).trans hx240_2
                    replace hx240_3 := (HB.out.cell (World.block_lt_of_cell? w _ hx240_3)).trans hx240_3
                    replace hx240_4 := (HB.out.cell (World.block_lt_of_cell? w _ hx240_4)).trans hx240_4
                    replace hx240_5 := (HB.out.cell (World.block_lt_of_cell? w _ hx240_5)).trans hx240_5
                    replace hx240_6 := (HB.out.cell (World.block_lt_of_cell? w _ hx240_6)).trans hx240_6
                    replace hx240_7 := (HB.out.cell (World.block_lt_of_cell? w _ hx240_7)).trans hx240_7
                    have HR240_6 := Aside0.mk hi240_6
                    have HC240_6 := Aside0.mk hl240_6
                    clear hi240_6 hl240_6
                    have HR240_7 := Aside0.mk hi240_7
                    have HC240_7 := Aside0.mk hl240_7
                    clear hi240_7 hl240_7
                    replace p240 := eq_true p240
                    replace q240 := eq_true q240
                    try go_wp2_with (first | ((with_reducible refine gate_dst (N := 7) rfl ?_); (try (refine gate_guard (by rfl) ?_; dsimp only)); refine box_event ?hg (N := 7) ?hd (cs := #[.int .i64 0, .int .i64 0, .string (⟨#[]⟩ : ByteArray), .string (⟨#[]⟩ : ByteArray), .bool false, .bool false, .slice none 0 0, .slice none 0 0]) (t := 39) ?hr ?_; (case hd => rfl); (case hg => rfl); (case hr => first | (go_simp; done) | (go_simp; rfl)); intro gb241 hg w12 hbox hb; have n0_ := Aside0.mk (below_step (by repeat (first | (with_reducible first | exact HB.out | apply below_alloc | apply pw_below_drewN | apply below_drew1) | exact HB.out)) hb); have n1_ := Aside0.mk (hbox); have n2_ := Aside0.mk ((by rw [hg]; exact (below_size (by repeat (first | (with_reducible first | exact HB.out | apply below_alloc | apply pw_below_drewN | apply below_drew1) | exact HB.out))) : w.heap.size ≤ gb241)); have n3_ := Aside0.mk ((by rw [hg]; exact (below_size (by repeat (first | (with_reducible first | exact HB.out | apply below_alloc | apply pw_below_drewN | apply below_drew1) | exact HB.out))) : w.heap.size ≤ gb241)); clear HB; have HB := n0_; have BK241 := n1_; have GW241 := n2_; have GE241 := n3_; clear n0_ n1_ n2_ n3_; clear hb hbox hg; have hcz13_0 : w12.cell? ⟨gb241, 0, none⟩ = some (.int .i64 0) := (blk_cell BK241.out 0).trans rfl; have hcz13_1 : w12.cell? ⟨gb241, 1, none⟩ = some (.int .i64 0) := (blk_cell BK241.out 1).trans rfl; have hcz13_2 : w12.cell? ⟨gb241, 2, none⟩ = some (.string (⟨#[]⟩ : ByteArray)) := (blk_cell BK241.out 2).trans rfl; have hcz13_3 : w12.cell? ⟨gb241, 3, none⟩ = some (.string (⟨#[]⟩ : ByteArray)) := (blk_cell BK241.out 3).trans rfl; have hcz13_4 : w12.cell? ⟨gb241, 4, none⟩ = some (.bool false) := (blk_cell BK241.out 4).trans rfl; have hcz13_5 : w12.cell? ⟨gb241, 5, none⟩ = some (.bool false) := (blk_cell BK241.out 5).trans rfl; have hcz13_6 : w12.cell? ⟨gb241, 6, none⟩ = some (.slice none 0 0) := (blk_cell BK241.out 6).trans rfl; have hcz13_7 : w12.cell? ⟨gb241, 7, none⟩ = some (.slice none 0 0) := (blk_cell BK241.out 7).trans rfl; have hfz13_0 := blk_frozen BK241.out 0; have hfz13_1 := blk_frozen BK241.out 1; have hfz13_2 := blk_frozen BK241.out 2; have hfz13_3 := blk_frozen BK241.out 3; have hfz13_4 := blk_frozen BK241.out 4; have hfz13_5 := blk_frozen BK241.out 5; have hfz13_6 := blk_frozen BK241.out 6; have hfz13_7 := blk_frozen BK241.out 7))
                    have n0_ : Aside0 (((((((((w12.setCell ⟨gb241, 0, none⟩ (.int .i64 ((rd_T39 l0 x17_2).f0))).setCell ⟨gb241, 1, none⟩ (.int .i64 ((rd_T39 l0 x17_2).f1))).setCell ⟨gb241, 2, none⟩ (.string ((rd_T39 l0 x17_2).f2))).setCell ⟨gb241, 3, none⟩ (.string ((rd_T39 l0 x17_2).f3))).setCell ⟨gb241, 4, none⟩ (.bool ((rd_T39 l0 x17_2).f4))).setCell ⟨gb241, 5, none⟩ (.bool ((rd_T39 l0 x17_2).f5))).setCell ⟨gb241, 6, none⟩ (.slice A240_6 ((rd_T39 l0 x17_2).f6).length c240_6)).setCell ⟨gb241, 7, none⟩ (.slice A240_7 ((rd_T39 l0 x17_2).f7).length c240_7)).heap[gb241]? = some (.cells #[.int .i64 ((rd_T39 l0 x17_2).f0), .int .i64 ((rd_T39 l0 x17_2).f1), .string ((rd_T39 l0 x17_2).f2), .string ((rd_T39 l0 x17_2).f3), .bool ((rd_T39 l0 x17_2).f4), .bool ((rd_T39 l0 x17_2).f5), .slice A240_6 ((rd_T39 l0 x17_2).f6).length c240_6, .slice A240_7 ((rd_T39 l0 x17_2).f7).length c240_7] 39 (0, 0))) := ⟨by (with_reducible repeat (first | refine blk_drewN ?_ _ | refine blk_drew ?_ | refine blk_alloc ?_ _)); refine blk_put (cs := #[.int .i64 ((rd_T39 l0 x17_2).f0), .int .i64 ((rd_T39 l0 x17_2).f1), .string ((rd_T39 l0 x17_2).f2), .string ((rd_T39 l0 x17_2).f3), .bool ((rd_T39 l0 x17_2).f4), .bool ((rd_T39 l0 x17_2).f5), .slice A240_6 ((rd_T39 l0 x17_2).f6).length c240_6, .slice none 0 0]) ?_ 7 _ rfl; (with_reducible repeat (first | refine blk_drewN ?_ _ | refine blk_drew ?_ | refine blk_alloc ?_ _)); refine blk_put (cs := #[.int .i64 ((rd_T39 l0 x17_2).f0), .int .i64 ((rd_T39 l0 x17_2).f1), .string ((rd_T39 l0 x17_2).f2), .string ((rd_T39 l0 x17_2).f3), .bool ((rd_T39 l0 x17_2).f4), .bool ((rd_T39 l0 x17_2).f5), .slice none 0 0, .slice none 0 0]) ?_ 6 _ rfl; (with_reducible repeat (first | refine blk_drewN ?_ _ | refine blk_drew ?_ | refine blk_alloc ?_ _)); refine blk_put (cs := #[.int .i64 ((rd_T39 l0 x17_2).f0), .int .i64 ((rd_T39 l0 x17_2).f1), .string ((rd_T39 l0 x17_2).f2), .string ((rd_T39 l0 x17_2).f3), .bool ((rd_T39 l0 x17_2).f4), .bool false, .slice none 0 0, .slice none 0 0]) ?_ 5 _ rfl; (with_reducible repeat (first | refine blk_drewN ?_ _ | refine blk_drew ?_ | refine blk_alloc ?_ _)); refine blk_put (cs := #[.int .i64 ((rd_T39 l0 x17_2).f0), .int .i64 ((rd_T39 l0 x17_2).f1), .string ((rd_T39 l0 x17_2).f2), .string ((rd_T39 l0 x17_2).f3), .bool false, .bool false, .slice none 0 0, .slice none 0 0]) ?_ 4 _ rfl; (with_reducible repeat (first | refine blk_drewN ?_ _ | refine blk_drew ?_ | refine blk_alloc ?_ _)); refine blk_put (cs := #[.int .i64 ((rd_T39 l0 x17_2).f0), .int .i64 ((rd_T39 l0 x17_2).f1), .string ((rd_T39 l0 x17_2).f2), .string (⟨#[]⟩ : ByteArray), .bool false, .bool false, .slice none 0 0, .slice none 0 0]) ?_ 3 _ rfl; (with_reducible repeat (first | refine blk_drewN ?_ _ | refine blk_drew ?_ | refine blk_alloc ?_ _)); refine blk_put (cs := #[.int .i64 ((rd_T39 l0 x17_2).f0), .int .i64 ((rd_T39 l0 x17_2).f1), .string (⟨#[]⟩ : ByteArray), .string (⟨#[]⟩ : ByteArray), .bool false, .bool false, .slice none 0 0, .slice none 0 0]) ?_ 2 _ rfl; (with_reducible repeat (first | refine blk_drewN ?_ _ | refine blk_drew ?_ | refine blk_alloc ?_ _)); refine blk_put (cs := #[.int .i64 ((rd_T39 l0 x17_2).f0), .int .i64 0, .string (⟨#[]⟩ : ByteArray), .string (⟨#[]⟩ : ByteArray), .bool false, .bool false, .slice none 0 0, .slice none 0 0]) ?_ 1 _ rfl; (with_reducible repeat (first | refine blk_drewN ?_ _ | refine blk_drew ?_ | refine blk_alloc ?_ _)); refine blk_put (cs := #[.int .i64 0, .int .i64 0, .string (⟨#[]⟩ : ByteArray), .string (⟨#[]⟩ : ByteArray), .bool false, .bool false, .slice none 0 0, .slice none 0 0]) ?_ 0 _ rfl; (with_reducible repeat (first | refine blk_drewN ?_ _ | refine blk_drew ?_ | refine blk_alloc ?_ _)); exact BK241.out⟩
                    have n1_ : Aside0 (Below w.heap.size w ((((((((w12.setCell ⟨gb241, 0, none⟩ (.int .i64 ((rd_T39 l0 x17_2).f0))).setCell ⟨gb241, 1, none⟩ (.int .i64 ((rd_T39 l0 x17_2).f1))).setCell ⟨gb241, 2, none⟩ (.string ((rd_T39 l0 x17_2).f2))).setCell ⟨gb241, 3, none⟩ (.string ((rd_T39 l0 x17_2).f3))).setCell ⟨gb241, 4, none⟩ (.bool ((rd_T39 l0 x17_2).f4))).setCell ⟨gb241, 5, none⟩ (.bool ((rd_T39 l0 x17_2).f5))).setCell ⟨gb241, 6, none⟩ (.slice A240_6 ((rd_T39 l0 x17_2).f6).length c240_6)).setCell ⟨gb241, 7, none⟩ (.slice A240_7 ((rd_T39 l0 x17_2).f7).length c240_7))) := ⟨by repeat (first | (with_reducible first | exact HB.out | apply below_alloc | apply pw_below_drewN | apply below_drew1 | refine below_set ?_ GE241.out) | exact HB.out)⟩
                    (try clear BK241)
                    (try clear HB)
                    generalize ((((((((w12.setCell ⟨gb241, 0, none⟩ (.int .i64 ((rd_T39 l0 x17_2).f0))).setCell ⟨gb241, 1, none⟩ (.int .i64 ((rd_T39 l0 x17_2).f1))).setCell ⟨gb241, 2, none⟩ (.string ((rd_T39 l0 x17_2).f2))).setCell ⟨gb241, 3, none⟩ (.string ((rd_T39 l0 x17_2).f3))).setCell ⟨gb241, 4, none⟩ (.bool ((rd_T39 l0 x17_2).f4))).setCell ⟨gb241, 5, none⟩ (.bool ((rd_T39 l0 x17_2).f5))).setCell ⟨gb241, 6, none⟩ (.slice A240_6 ((rd_T39 l0 x17_2).f6).length c240_6)).setCell ⟨gb241, 7, none⟩ (.slice A240_7 ((rd_T39 l0 x17_2).f7).length c240_7)) = w14 at n0_ n1_ ⊢
                    have BK241 := n0_
                    have HB := n1_
                    clear n0_ n1_
                    have n0_ := Aside0.mk (blk_drew BK241.out)
                    have n1_ := Aside0.mk (below_drew1 HB.out)
                    clear BK241
                    clear HB
                    have BK241 := n0_
                    have HB := n1_
                    clear n0_ n1_
                    refine start_ (n := 15) (S := fun w' => w'.cell? ⟨gb241, 0, none⟩ = some (.int .i64 ((rd_T39 l0 x17_2).f0)) ∧ w'.cell? ⟨gb241, 1, none⟩ = some (.int .i64 ((rd_T39 l0 x17_2).f1)) ∧ w'.cell? ⟨gb241, 2, none⟩ = some (.string ((rd_T39 l0 x17_2).f2)) ∧ w'.cell? ⟨gb241, 3, none⟩ = some (.string ((rd_T39 l0 x17_2).f3)) ∧ w'.cell? ⟨gb241, 4, none⟩ = some (.bool ((rd_T39 l0 x17_2).f4)) ∧ w'.cell? ⟨gb241, 5, none⟩ = some (.bool ((rd_T39 l0 x17_2).f5)) ∧ w'.cell? ⟨gb241, 6, none⟩ = some (.slice A240_6 ((rd_T39 l0 x17_2).f6).length c240_6) ∧ w'.cell? ⟨gb241, 7, none⟩ = some (.slice A240_7 ((rd_T39 l0 x17_2).f7).length c240_7)) (ds := []) #[false, false, false, false, false, false, false, false, false, false, false, false, false, false, false] (by kernel_rfl) rfl rfl ⟨(blk_cell BK241.out 0).trans rfl, (blk_cell BK241.out 1).trans rfl, (blk_cell BK241.out 2).trans rfl, (blk_cell BK241.out 3).trans rfl, (blk_cell BK241.out 4).trans rfl, (blk_cell BK241.out 5).trans rfl, (blk_cell BK241.out 6).trans rfl, (blk_cell BK241.out 7).trans rfl⟩ (fun hHeld => ?_); refine with_tabW tmplpipelaw12_weight.tab7 tmplpipelaw12_weight.bits7 (fun HT_ HW_ => ?_)
                    generalize w14.drew = w15 at BK241 HB hHeld ⊢
                    refine pure_ (i := 0) (N := some 21) (v := ?_) (a' := ?_) #[true, false, false, false, false, false, false, false, false, false, false, false, false, false, false] rfl rfl (any_of HT_.out (by kernel_rfl)) (fun _ _ _ h => h) (Or.inl ⟨by rfl, ?_⟩) ?_ ?_
                    rotate_left
                    · intro w'
                      go_simp
                      with_reducible rfl
                    rotate_left
                    · simp only [Act.put, List.setIfInBounds_toArray, List.set_cons_zero, List.set_cons_succ, i64_w, i32_w]
                      rfl
                    refine pure_ (i := 1) (N := some 22) (v := ?_) (a' := ?_) #[true, true, false, false, false, false, false, false, false, false, false, false, false, false, false] rfl rfl (any_of HT_.out (by kernel_rfl)) (fun _ _ _ h => h) (Or.inl ⟨by rfl, ?_⟩) ?_ ?_
                    rotate_left
                    · intro w'
                      go_simp
                      with_reducible rfl
                    rotate_left
                    · simp only [Act.put, List.setIfInBounds_toArray, List.set_cons_zero, List.set_cons_succ, i64_w, i32_w]
                      rfl
                    refine pure_ (i := 3) (N := some 24) (v := ?_) (a' := ?_) #[true, true, false, true, false, false, false, false, false, false, false, false, false, false, false] rfl rfl (any_of HT_.out (by kernel_rfl)) (fun _ _ _ h => h) (Or.inl ⟨by rfl, ?_⟩) ?_ ?_
                    rotate_left
                    · intro w'
                      go_simp
                      with_reducible rfl
                    rotate_left
                    · simp only [Act.put, List.setIfInBounds_toArray, List.set_cons_zero, List.set_cons_succ, i64_w, i32_w]
                      rfl
                    refine pure_ (i := 4) (N := some 25) (v := ?_) (a' := ?_) #[true, true, false, true, true, false, false, false, false, false, false, false, false, false, false] rfl rfl (any_of HT_.out (by kernel_rfl)) (fun _ _ _ h => h) (Or.inl ⟨by rfl, ?_⟩) ?_ ?_
                    rotate_left
                    · intro w'
                      go_simp
                      with_reducible rfl
                    rotate_left
                    · simp only [Act.put, List.setIfInBounds_toArray, List.set_cons_zero, List.set_cons_succ, i64_w, i32_w]
                      rfl
                    refine pure_ (i := 7) (N := some 28) (v := ?_) (a' := ?_) #[true, true, false, true, true, false, false, true, false, false, false, false, false, false, false] rfl rfl (any_of HT_.out (by kernel_rfl)) (fun _ _ _ h => h) (Or.inl ⟨by rfl, ?_⟩) ?_ ?_
                    rotate_left
                    · intro w'
                      go_simp
                      with_reducible rfl
                    rotate_left
                    · simp only [Act.put, List.setIfInBounds_toArray, List.set_cons_zero, List.set_cons_succ, i64_w, i32_w]
                      rfl
                    refine pure_ (i := 9) (N := some 30) (v := ?_) (a' := ?_) #[true, true, false, true, true, false, false, true, false, true, false, false, false, false, false] rfl rfl (any_of HT_.out (by kernel_rfl)) (fun _ _ _ h => h) (Or.inl ⟨by rfl, ?_⟩) ?_ ?_
                    rotate_left
                    · intro w'
                      go_simp
                      with_reducible rfl
                    rotate_left
                    · simp only [Act.put, List.setIfInBounds_toArray, List.set_cons_zero, List.set_cons_succ, i64_w, i32_w]
                      rfl
                    refine pure_ (i := 10) (N := some 31) (v := ?_) (a' := ?_) #[true, true, false, true, true, false, false, true, false, true, true, false, false, false, false] rfl rfl (any_of HT_.out (by kernel_rfl)) (fun _ _ _ h => h) (Or.inl ⟨by rfl, ?_⟩) ?_ ?_
                    rotate_left
                    · intro w'
                      go_simp
                      with_reducible rfl
                    rotate_left
                    · simp only [Act.put, List.setIfInBounds_toArray, List.set_cons_zero, List.set_cons_succ, i64_w, i32_w]
                      rfl
                    refine take_ (i := 2) (N := some 23) (v := ?_) (a' := ?_) #[true, true, true, true, true, false, false, true, false, true, true, false, false, false, false] rfl rfl (take_ofW HT_.out HW_.out (by kernel_rfl)) (fun _ _ _ h => h) (Or.inl ⟨by rfl, ?_⟩) hHeld ?_ ?_
                    rotate_left
                    · rintro w' ⟨s0, s1, s2, s3, s4, s5, s6, s7⟩
                      go_simp
                      with_reducible rfl
                    rotate_left
                    · simp only [Act.put, List.setIfInBounds_toArray, List.set_cons_zero, List.set_cons_succ, i64_w, i32_w]
                      rfl
                    refine take_ (i := 8) (N := some 29) (v := ?_) (a' := ?_) #[true, true, true, true, true, false, false, true, true, true, true, false, false, false, false] rfl rfl (take_ofW HT_.out HW_.out (by kernel_rfl)) (fun _ _ _ h => h) (Or.inl ⟨by rfl, ?_⟩) hHeld ?_ ?_
                    rotate_left
                    · rintro w' ⟨s0, s1, s2, s3, s4, s5, s6, s7⟩
                      go_simp
                      with_reducible rfl
                    rotate_left
                    · simp only [Act.put, List.setIfInBounds_toArray, List.set_cons_zero, List.set_cons_succ, i64_w, i32_w]
                      rfl
                    refine one_ (i := 5) (N := some 26) #[true, true, true, true, true, true, false, true, true, true, true, false, false, false, false] rfl rfl (one_of HT_.out (by kernel_rfl)) (by decide) (fun K hK => ?_)
                    refine goes_ Tryd.func52 (by kernel_rfl) rfl #[.slice A240_6 ((rd_T39 l0 x17_2).f6).length c240_6, .int .i64 (wrap64 (a1 + 1))] (by rfl) rfl rfl (by (try simp only [List.map_toArray, List.map_cons, List.map_nil]); first | done | rfl | (simp only [List.length_drop, List.length_take]; rfl)) ?_
                    with_reducible refine (ih k2 (by have := HJ2.out; have := HK2.out; omega) _ _ ((rd_T39 l0 x17_2).f6) (wrap64 (a1 + 1)) t242 _ ?side1 ?side2 A9.out).mono ?_
                    (case side1 => repeat (first | exact (Kd.C_below HR240_6.out HB.out) | (with_reducible refine Kd.C_alloc ?_ _) | (with_reducible refine Kd.C_drewN ?_ _) | (with_reducible refine Kd.C_drew ?_)))
                    (case side2 => exact HC240_6.out)
                    rintro e w16 ⟨rfl, hb⟩
                    refine ⟨_, rfl, ?_⟩
                    have n0_ := Aside0.mk (blk_below (g := gb241) (o := .cells #[.int .i64 ((rd_T39 l0 x17_2).f0), .int .i64 ((rd_T39 l0 x17_2).f1), .string ((rd_T39 l0 x17_2).f2), .string ((rd_T39 l0 x17_2).f3), .bool ((rd_T39 l0 x17_2).f4), .bool ((rd_T39 l0 x17_2).f5), .slice A240_6 ((rd_T39 l0 x17_2).f6).length c240_6, .slice A240_7 ((rd_T39 l0 x17_2).f7).length c240_7] 39 (0, 0)) (by (with_reducible repeat (first | refine blk_drewN ?_ _ | refine blk_drew ?_ | refine blk_alloc ?_ _)); exact BK241.out) hb)
                    have n1_ := Aside0.mk (below_step (by repeat (first | (with_reducible first | exact HB.out | apply below_alloc | apply pw_below_drewN | apply below_drew1 | refine below_set ?_ GE241.out) | exact HB.out)) hb)
                    clear BK241
                    clear HB
                    have BK241 := n0_
                    have HB := n1_
                    clear n0_ n1_
                    (try clear hb)
                    (try clear hb2)
                    (try clear hk)
                    (try clear hi)
                    refine hK.out _ _ ⟨(blk_cell BK241.out 0).trans rfl, (blk_cell BK241.out 1).trans rfl, (blk_cell BK241.out 2).trans rfl, (blk_cell BK241.out 3).trans rfl, (blk_cell BK241.out 4).trans rfl, (blk_cell BK241.out 5).trans rfl, (blk_cell BK241.out 6).trans rfl, (blk_cell BK241.out 7).trans rfl⟩ (fun hHeld => ?_)
                    clear hK K
                    refine norm_ (a' := ?_) ?_ ?_
                    rotate_left
                    · show Act.put _ (some 26) _ = _
                      simp only [Act.put, List.setIfInBounds_toArray, List.set_cons_zero, List.set_cons_succ, i64_w, i32_w]
                      rfl
                    refine pure_ (i := 6) (N := some 27) (v := ?_) (a' := ?_) #[true, true, true, true, true, true, true, true, true, true, true, false, false, false, false] rfl rfl (any_of HT_.out (by kernel_rfl)) (fun _ _ _ h => h) (Or.inl ⟨by rfl, ?_⟩) ?_ ?_
                    rotate_left
                    · intro w'
                      go_simp
                      with_reducible rfl
                    rotate_left
                    · simp only [Act.put, List.setIfInBounds_toArray, List.set_cons_zero, List.set_cons_succ, i64_w, i32_w]
                      rfl
                    refine one_ (i := 11) (N := some 32) #[true, true, true, true, true, true, true, true, true, true, true, true, false, false, false] rfl rfl (one_of HT_.out (by kernel_rfl)) (by decide) (fun K hK => ?_)
                    refine goes_ Tryd.func52 (by kernel_rfl) rfl #[.slice A240_7 ((rd_T39 l0 x17_2).f7).length c240_7, .int .i64 (wrap64 (a1 + 1))] (by rfl) rfl rfl (by (try simp only [List.map_toArray, List.map_cons, List.map_nil]); first | done | rfl | (simp only [List.length_drop, List.length_take]; rfl)) ?_
                    with_reducible refine (ih k2 (by have := HJ2.out; have := HK2.out; omega) _ _ ((rd_T39 l0 x17_2).f7) (wrap64 (a1 + 1)) t243 _ ?side1 ?side2 A10.out).mono ?_
                    (case side1 => repeat (first | exact (Kd.C_below HR240_7.out HB.out) | (with_reducible refine Kd.C_alloc ?_ _) | (with_reducible refine Kd.C_drewN ?_ _) | (with_reducible refine Kd.C_drew ?_)))
                    (case side2 => exact HC240_7.out)
                    rintro e w17 ⟨rfl, hb⟩
                    refine ⟨_, rfl, ?_⟩
                    have n0_ := Aside0.mk (blk_below (g := gb241) (o := .cells #[.int .i64 ((rd_T39 l0 x17_2).f0), .int .i64 ((rd_T39 l0 x17_2).f1), .string ((rd_T39 l0 x17_2).f2), .string ((rd_T39 l0 x17_2).f3), .bool ((rd_T39 l0 x17_2).f4), .bool ((rd_T39 l0 x17_2).f5), .slice A240_6 ((rd_T39 l0 x17_2).f6).length c240_6, .slice A240_7 ((rd_T39 l0 x17_2).f7).length c240_7] 39 (0, 0)) (by (with_reducible repeat (first | refine blk_drewN ?_ _ | refine blk_drew ?_ | refine blk_alloc ?_ _)); exact BK241.out) hb)
                    have n1_ := Aside0.mk (below_step (by repeat (first | (with_reducible first | exact HB.out | apply below_alloc | apply pw_below_drewN | apply below_drew1 | refine below_set ?_ GE241.out) | exact HB.out)) hb)
                    clear BK241
                    clear HB
                    have BK241 := n0_
                    have HB := n1_
                    clear n0_ n1_
                    (try clear hb)
                    (try clear hb2)
                    (try clear hk)
                    (try clear hi)
                    refine hK.out _ _ ⟨(blk_cell BK241.out 0).trans rfl, (blk_cell BK241.out 1).trans rfl, (blk_cell BK241.out 2).trans rfl, (blk_cell BK241.out 3).trans rfl, (blk_cell BK241.out 4).trans rfl, (blk_cell BK241.out 5).trans rfl, (blk_cell BK241.out 6).trans rfl, (blk_cell BK241.out 7).trans rfl⟩ (fun hHeld => ?_)
                    clear hK K
                    refine norm_ (a' := ?_) ?_ ?_
                    rotate_left
                    · show Act.put _ (some 32) _ = _
                      simp only [Act.put, List.setIfInBounds_toArray, List.set_cons_zero, List.set_cons_succ, i64_w, i32_w]
                      rfl
                    refine pure_ (i := 12) (N := some 33) (v := ?_) (a' := ?_) #[true, true, true, true, true, true, true, true, true, true, true, true, true, false, false] rfl rfl (any_of HT_.out (by kernel_rfl)) (fun _ _ _ h => h) (Or.inl ⟨by rfl, ?_⟩) ?_ ?_
                    rotate_left
                    · intro w'
                      go_simp
                      with_reducible rfl
                    rotate_left
                    · simp only [Act.put, List.setIfInBounds_toArray, List.set_cons_zero, List.set_cons_succ, i64_w, i32_w]
                      rfl
                    refine pure_ (i := 13) (N := some 34) (v := ?_) (a' := ?_) #[true, true, true, true, true, true, true, true, true, true, true, true, true, true, false] rfl rfl (any_of HT_.out (by kernel_rfl)) (fun _ _ _ h => h) (Or.inl ⟨by rfl, ?_⟩) ?_ ?_
                    rotate_left
                    · intro w'
                      go_simp
                      with_reducible rfl
                    rotate_left
                    · simp only [Act.put, List.setIfInBounds_toArray, List.set_cons_zero, List.set_cons_succ, i64_w, i32_w]
                      rfl
                    refine pure_ (i := 14) (N := some 5) (v := ?_) (a' := ?_) #[true, true, true, true, true, true, true, true, true, true, true, true, true, true, true] rfl rfl (any_of HT_.out (by kernel_rfl)) (fun _ _ _ h => h) (Or.inl ⟨by rfl, ?_⟩) ?_ ?_
                    rotate_left
                    · intro w'
                      go_simp
                      with_reducible rfl
                    rotate_left
                    · simp only [Act.put, List.setIfInBounds_toArray, List.set_cons_zero, List.set_cons_succ, i64_w, i32_w]
                      rfl
                    refine done_ (done_of HT_.out (by kernel_rfl)) ?_
                    try go_wp2
                    go_ret
                    exact ⟨by first | rfl | (simp [errW_none, errW_some] <;> rfl) | (simp [*, errW_none, errW_some] <;> rfl), by repeat (first | (with_reducible first | exact HB.out | apply below_alloc | apply pw_below_drewN | apply below_drew1 | refine below_set ?_ GE241.out) | exact HB.out)⟩
                  · rw [if_neg c11] at H
                    have c11b0 : decide (10000 < (wrap64 (x5_2 + (wrap64 ((wrap64 (1 + t242)) + t243))))) = false := decide_eq_false c11
                    clear c11
                    have H' := Aside0.mk H
                    clear H
                    have p240 : 0 ≤ (x17_2 : Int) := of_decide_eq_true (by first | (with_reducible assumption) | assumption)
                    have q240 : x17_2 < (l0.length : Int) := of_decide_eq_true (by first | (with_reducible assumption) | assumption)
                    obtain ⟨ad240, A240_6, c240_6, A240_7, c240_7, e240, hx240_0, hx240_1, hx240_2, hx240_3, hx240_4, hx240_5, hx240_6, hx240_7, hl240_6, hi240_6, hl240_7, hi240_7⟩ := at_T39 HR0.out x17_2 p240 q240
                    cases e240
                    replace hx240_0 := (HB.out.cell (World.block_lt_of_cell? w _ hx240_0)).trans hx240_0
                    replace hx240_1 := (HB.out.cell (World.block_lt_of_cell? w _ hx240_1)).trans hx240_1
                    replace hx240_2 := (HB.out.cell (World.block_lt_of_cell? w _ hx240_2)).trans hx240_2
                    replace hx240_3 := (HB.out.cell (World.block_lt_of_cell? w _ hx240_3)).trans hx240_3
                    replace hx240_4 := (HB.out.cell (World.block_lt_of_cell? w _ hx240_4)).trans hx240_4
                    replace hx240_5 := (HB.out.cell (World.block_lt_of_cell? w _ hx240_5)).trans hx240_5
                    replace hx240_6 := (HB.out.cell (World.block_lt_of_cell? w _ hx240_6)).trans hx240_6
                    replace hx240_7 := (HB.out.cell (World.block_lt_of_cell? w _ hx240_7)).trans hx240_7
                    have HR240_6 := Aside0.mk hi240_6
                    have HC240_6 := Aside0.mk hl240_6
                    clear hi240_6 hl240_6
                    have HR240_7 := Aside0.mk hi240_7
                    have HC240_7 := Aside0.mk hl240_7
                    clear hi240_7 hl240_7
                    replace p240 := eq_true p240
                    replace q240 := eq_true q240
                    try go_wp2_with (first | ((with_reducible refine gate_dst (N := 7) rfl ?_); (try (refine gate_guard (by rfl) ?_; dsimp only)); refine box_event ?hg (N := 7) ?hd (cs := #[.int .i64 0, .int .i64 0, .string (⟨#[]⟩ : ByteArray), .string (⟨#[]⟩ : ByteArray), .bool false, .bool false, .slice none 0 0, .slice none 0 0]) (t := 39) ?hr ?_; (case hd => rfl); (case hg => rfl); (case hr => first | (go_simp; done) | (go_simp; rfl)); intro gb241 hg w18 hbox hb; have n0_ := Aside0.mk (below_step (by repeat (first | (with_reducible first | exact HB.out | apply below_alloc | apply pw_below_drewN | apply below_drew1) | exact HB.out)) hb); have n1_ := Aside0.mk (hbox); have n2_ := Aside0.mk ((by rw [hg]; exact (below_size (by repeat (first | (with_reducible first | exact HB.out | apply below_alloc | apply pw_below_drewN | apply below_drew1) | exact HB.out))) : w.heap.size ≤ gb241)); have n3_ := Aside0.mk ((by rw [hg]; exact (below_size (by repeat (first | (with_reducible first | exact HB.out | apply below_alloc | apply pw_below_drewN | apply below_drew1) | exact HB.out))) : w.heap.size ≤ gb241)); clear HB; have HB := n0_; have BK241 := n1_; have GW241 := n2_; have GE241 := n3_; clear n0_ n1_ n2_ n3_; clear hb hbox hg; have hcz19_0 : w18.cell? ⟨gb241, 0, none⟩ = some (.int .i64 0) := (blk_cell BK241.out 0).trans rfl; have hcz19_1 : w18.cell? ⟨gb241, 1, none⟩ = some (.int .i64 0) := (blk_cell BK241.out 1).trans rfl; have hcz19_2 : w18.cell? ⟨gb241, 2, none⟩ = some (.string (⟨#[]⟩ : ByteArray)) := (blk_cell BK241.out 2).trans rfl; have hcz19_3 : w18.cell? ⟨gb241, 3, none⟩ = some (.string (⟨#[]⟩ : ByteArray)) := (blk_cell BK241.out 3).trans rfl; have hcz19_4 : w18.cell? ⟨gb241, 4, none⟩ = some (.bool false) := (blk_cell BK241.out 4).trans rfl; have hcz19_5 : w18.cell? ⟨gb241, 5, none⟩ = some (.bool false) := (blk_cell BK241.out 5).trans rfl; have hcz19_6 : w18.cell? ⟨gb241, 6, none⟩ = some (.slice none 0 0) := (blk_cell BK241.out 6).trans rfl; have hcz19_7 : w18.cell? ⟨gb241, 7, none⟩ = some (.slice none 0 0) := (blk_cell BK241.out 7).trans rfl; have hfz19_0 := blk_frozen BK241.out 0; have hfz19_1 := blk_frozen BK241.out 1; have hfz19_2 := blk_frozen BK241.out 2; have hfz19_3 := blk_frozen BK241.out 3; have hfz19_4 := blk_frozen BK241.out 4; have hfz19_5 := blk_frozen BK241.out 5; have hfz19_6 := blk_frozen BK241.out 6; have hfz19_7 := blk_frozen BK241.out 7))
                    have n0_ : Aside0 (((((((((w18.setCell ⟨gb241, 0, none⟩ (.int .i64 ((rd_T39 l0 x17_2).f0))).setCell ⟨gb241, 1, none⟩ (.int .i64 ((rd_T39 l0 x17_2).f1))).setCell ⟨gb241, 2, none⟩ (.string ((rd_T39 l0 x17_2).f2))).setCell ⟨gb241, 3, none⟩ (.string ((rd_T39 l0 x17_2).f3))).setCell ⟨gb241, 4, none⟩ (.bool ((rd_T39 l0 x17_2).f4))).setCell ⟨gb241, 5, none⟩ (.bool ((rd_T39 l0 x17_2).f5))).setCell ⟨gb241, 6, none⟩ (.slice A240_6 ((rd_T39 l0 x17_2).f6).length c240_6)).setCell ⟨gb241, 7, none⟩ (.slice A240_7 ((rd_T39 l0 x17_2).f7).length c240_7)).heap[gb241]? = some (.cells #[.int .i64 ((rd_T39 l0 x17_2).f0), .int .i64 ((rd_T39 l0 x17_2).f1), .string ((rd_T39 l0 x17_2).f2), .string ((rd_T39 l0 x17_2).f3), .bool ((rd_T39 l0 x17_2).f4), .bool ((rd_T39 l0 x17_2).f5), .slice A240_6 ((rd_T39 l0 x17_2).f6).length c240_6, .slice A240_7 ((rd_T39 l0 x17_2).f7).length c240_7] 39 (0, 0))) := ⟨by (with_reducible repeat (first | refine blk_drewN ?_ _ | refine blk_drew ?_ | refine blk_alloc ?_ _)); refine blk_put (cs := #[.int .i64 ((rd_T39 l0 x17_2).f0), .int .i64 ((rd_T39 l0 x17_2).f1), .string ((rd_T39 l0 x17_2).f2), .string ((rd_T39 l0 x17_2).f3), .bool ((rd_T39 l0 x17_2).f4), .bool ((rd_T39 l0 x17_2).f5), .slice A240_6 ((rd_T39 l0 x17_2).f6).length c240_6, .slice none 0 0]) ?_ 7 _ rfl; (with_reducible repeat (first | refine blk_drewN ?_ _ | refine blk_drew ?_ | refine blk_alloc ?_ _)); refine blk_put (cs := #[.int .i64 ((rd_T39 l0 x17_2).f0), .int .i64 ((rd_T39 l0 x17_2).f1), .string ((rd_T39 l0 x17_2).f2), .string ((rd_T39 l0 x17_2).f3), .bool ((rd_T39 l0 x17_2).f4), .bool ((rd_T39 l0 x17_2).f5), .slice none 0 0, .slice none 0 0]) ?_ 6 _ rfl; (with_reducible repeat (first | refine blk_drewN ?_ _ | refine blk_drew ?_ | refine blk_alloc ?_ _)); refine blk_put (cs := #[.int .i64 ((rd_T39 l0 x17_2).f0), .int .i64 ((rd_T39 l0 x17_2).f1), .string ((rd_T39 l0 x17_2).f2), .string ((rd_T39 l0 x17_2).f3), .bool ((rd_T39 l0 x17_2).f4), .bool false, .slice none 0 0, .slice none 0 0]) ?_ 5 _ rfl; (with_reducible repeat (first | refine blk_drewN ?_ _ | refine blk_drew ?_ | refine blk_alloc ?_ _)); refine blk_put (cs := #[.int .i64 ((rd_T39 l0 x17_2).f0), .int .i64 ((rd_T39 l0 x17_2).f1), .string ((rd_T39 l0 x17_2).f2), .string ((rd_T39 l0 x17_2).f3), .bool false, .bool false, .slice none 0 0, .slice none 0 0]) ?_ 4 _ rfl; (with_reducible repeat (first | refine blk_drewN ?_ _ | refine blk_drew ?_ | refine blk_alloc ?_ _)); refine blk_put (cs := #[.int .i64 ((rd_T39 l0 x17_2).f0), .int .i64 ((rd_T39 l0 x17_2).f1), .string ((rd_T39 l0 x17_2).f2), .string (⟨#[]⟩ : ByteArray), .bool false, .bool false, .slice none 0 0, .slice none 0 0]) ?_ 3 _ rfl; (with_reducible repeat (first | refine blk_drewN ?_ _ | refine blk_drew ?_ | refine blk_alloc ?_ _)); refine blk_put (cs := #[.int .i64 ((rd_T39 l0 x17_2).f0), .int .i64 ((rd_T39 l0 x17_2).f1), .string (⟨#[]⟩ : ByteArray), .string (⟨#[]⟩ : ByteArray), .bool false, .bool false, .slice none 0 0, .slice none 0 0]) ?_ 2 _ rfl; (with_reducible repeat (first | refine blk_drewN ?_ _ | refine blk_drew ?_ | refine blk_alloc ?_ _)); refine blk_put (cs := #[.int .i64 ((rd_T39 l0 x17_2).f0), .int .i64 0, .string (⟨#[]⟩ : ByteArray), .string (⟨#[]⟩ : ByteArray), .bool false, .bool false, .slice none 0 0, .slice none 0 0]) ?_ 1 _ rfl; (with_reducible repeat (first | refine blk_drewN ?_ _ | refine blk_drew ?_ | refine blk_alloc ?_ _)); refine blk_put (cs := #[.int .i64 0, .int .i64 0, .string (⟨#[]⟩ : ByteArray), .string (⟨#[]⟩ : ByteArray), .bool false, .bool false, .slice none 0 0, .slice none 0 0]) ?_ 0 _ rfl; (with_reducible repeat (first | refine blk_drewN ?_ _ | refine blk_drew ?_ | refine blk_alloc ?_ _)); exact BK241.out⟩
                    have n1_ : Aside0 (Below w.heap.size w ((((((((w18.setCell ⟨gb241, 0, none⟩ (.int .i64 ((rd_T39 l0 x17_2).f0))).setCell ⟨gb241, 1, none⟩ (.int .i64 ((rd_T39 l0 x17_2).f1))).setCell ⟨gb241, 2, none⟩ (.string ((rd_T39 l0 x17_2).f2))).setCell ⟨gb241, 3, none⟩ (.string ((rd_T39 l0 x17_2).f3))).setCell ⟨gb241, 4, none⟩ (.bool ((rd_T39 l0 x17_2).f4))).setCell ⟨gb241, 5, none⟩ (.bool ((rd_T39 l0 x17_2).f5))).setCell ⟨gb241, 6, none⟩ (.slice A240_6 ((rd_T39 l0 x17_2).f6).length c240_6)).setCell ⟨gb241, 7, none⟩ (.slice A240_7 ((rd_T39 l0 x17_2).f7).length c240_7))) := ⟨by repeat (first | (with_reducible first | exact HB.out | apply below_alloc | apply pw_below_drewN | apply below_drew1 | refine below_set ?_ GE241.out) | exact HB.out)⟩
                    (try clear BK241)
                    (try clear HB)
                    generalize ((((((((w18.setCell ⟨gb241, 0, none⟩ (.int .i64 ((rd_T39 l0 x17_2).f0))).setCell ⟨gb241, 1, none⟩ (.int .i64 ((rd_T39 l0 x17_2).f1))).setCell ⟨gb241, 2, none⟩ (.string ((rd_T39 l0 x17_2).f2))).setCell ⟨gb241, 3, none⟩ (.string ((rd_T39 l0 x17_2).f3))).setCell ⟨gb241, 4, none⟩ (.bool ((rd_T39 l0 x17_2).f4))).setCell ⟨gb241, 5, none⟩ (.bool ((rd_T39 l0 x17_2).f5))).setCell ⟨gb241, 6, none⟩ (.slice A240_6 ((rd_T39 l0 x17_2).f6).length c240_6)).setCell ⟨gb241, 7, none⟩ (.slice A240_7 ((rd_T39 l0 x17_2).f7).length c240_7)) = w20 at n0_ n1_ ⊢
                    have BK241 := n0_
                    have HB := n1_
                    clear n0_ n1_
                    have n0_ := Aside0.mk (blk_drew BK241.out)
                    have n1_ := Aside0.mk (below_drew1 HB.out)
                    clear BK241
                    clear HB
                    have BK241 := n0_
                    have HB := n1_
                    clear n0_ n1_
                    refine start_ (n := 15) (S := fun w' => w'.cell? ⟨gb241, 0, none⟩ = some (.int .i64 ((rd_T39 l0 x17_2).f0)) ∧ w'.cell? ⟨gb241, 1, none⟩ = some (.int .i64 ((rd_T39 l0 x17_2).f1)) ∧ w'.cell? ⟨gb241, 2, none⟩ = some (.string ((rd_T39 l0 x17_2).f2)) ∧ w'.cell? ⟨gb241, 3, none⟩ = some (.string ((rd_T39 l0 x17_2).f3)) ∧ w'.cell? ⟨gb241, 4, none⟩ = some (.bool ((rd_T39 l0 x17_2).f4)) ∧ w'.cell? ⟨gb241, 5, none⟩ = some (.bool ((rd_T39 l0 x17_2).f5)) ∧ w'.cell? ⟨gb241, 6, none⟩ = some (.slice A240_6 ((rd_T39 l0 x17_2).f6).length c240_6) ∧ w'.cell? ⟨gb241, 7, none⟩ = some (.slice A240_7 ((rd_T39 l0 x17_2).f7).length c240_7)) (ds := []) #[false, false, false, false, false, false, false, false, false, false, false, false, false, false, false] (by kernel_rfl) rfl rfl ⟨(blk_cell BK241.out 0).trans rfl, (blk_cell BK241.out 1).trans rfl, (blk_cell BK241.out 2).trans rfl, (blk_cell BK241.out 3).trans rfl, (blk_cell BK241.out 4).trans rfl, (blk_cell BK241.out 5).trans rfl, (blk_cell BK241.out 6).trans rfl, (blk_cell BK241.out 7).trans rfl⟩ (fun hHeld => ?_); refine with_tabW tmplpipelaw12_weight.tab7 tmplpipelaw12_weight.bits7 (fun HT_ HW_ => ?_)
                    generalize w20.drew = w21 at BK241 HB hHeld ⊢
                    refine pure_ (i := 0) (N := some 21) (v := ?_) (a' := ?_) #[true, false, false, false, false, false, false, false, false, false, false, false, false, false, false] rfl rfl (any_of HT_.out (by kernel_rfl)) (fun _ _ _ h => h) (Or.inl ⟨by rfl, ?_⟩) ?_ ?_
                    rotate_left
                    · intro w'
                      go_simp
                      with_reducible rfl
                    rotate_left
                    · simp only [Act.put, List.setIfInBounds_toArray, List.set_cons_zero, List.set_cons_succ, i64_w, i32_w]
                      rfl
                    refine pure_ (i := 1) (N := some 22) (v := ?_) (a' := ?_) #[true, true, false, false, false, false, false, false, false, false, false, false, false, false, false] rfl rfl (any_of HT_.out (by kernel_rfl)) (fun _ _ _ h => h) (Or.inl ⟨by rfl, ?_⟩) ?_ ?_
                    rotate_left
                    · intro w'
                      go_simp
                      with_reducible rfl
                    rotate_left
                    · simp only [Act.put, List.setIfInBounds_toArray, List.set_cons_zero, List.set_cons_succ, i64_w, i32_w]
                      rfl
                    refine pure_ (i := 3) (N := some 24) (v := ?_) (a' := ?_) #[true, true, false, true, false, false, false, false, false, false, false, false, false, false, false] rfl rfl (any_of HT_.out (by kernel_rfl)) (fun _ _ _ h => h) (Or.inl ⟨by rfl, ?_⟩) ?_ ?_
                    rotate_left
                    · intro w'
                      go_simp
                      with_reducible rfl
                    rotate_left
                    · simp only [Act.put, List.setIfInBounds_toArray, List.set_cons_zero, List.set_cons_succ, i64_w, i32_w]
                      rfl
                    refine pure_ (i := 4) (N := some 25) (v := ?_) (a' := ?_) #[true, true, false, true, true, false, false, false, false, false, false, false, false, false, false] rfl rfl (any_of HT_.out (by kernel_rfl)) (fun _ _ _ h => h) (Or.inl ⟨by rfl, ?_⟩) ?_ ?_
                    rotate_left
                    · intro w'
                      go_simp
                      with_reducible rfl
                    rotate_left
                    · simp only [Act.put, List.setIfInBounds_toArray, List.set_cons_zero, List.set_cons_succ, i64_w, i32_w]
                      rfl
                    refine pure_ (i := 7) (N := some 28) (v := ?_) (a' := ?_) #[true, true, false, true, true, false, false, true, false, false, false, false, false, false, false] rfl rfl (any_of HT_.out (by kernel_rfl)) (fun _ _ _ h => h) (Or.inl ⟨by rfl, ?_⟩) ?_ ?_
                    rotate_left
                    · intro w'
                      go_simp
                      with_reducible rfl
                    rotate_left
                    · simp only [Act.put, List.setIfInBounds_toArray, List.set_cons_zero, List.set_cons_succ, i64_w, i32_w]
                      rfl
                    refine pure_ (i := 9) (N := some 30) (v := ?_) (a' := ?_) #[true, true, false, true, true, false, false, true, false, true, false, false, false, false, false] rfl rfl (any_of HT_.out (by kernel_rfl)) (fun _ _ _ h => h) (Or.inl ⟨by rfl, ?_⟩) ?_ ?_
                    rotate_left
                    · intro w'
                      go_simp
                      with_reducible rfl
                    rotate_left
                    · simp only [Act.put, List.setIfInBounds_toArray, List.set_cons_zero, List.set_cons_succ, i64_w, i32_w]
                      rfl
                    refine pure_ (i := 10) (N := some 31) (v := ?_) (a' := ?_) #[true, true, false, true, true, false, false, true, false, true, true, false, false, false, false] rfl rfl (any_of HT_.out (by kernel_rfl)) (fun _ _ _ h => h) (Or.inl ⟨by rfl, ?_⟩) ?_ ?_
                    rotate_left
                    · intro w'
                      go_simp
                      with_reducible rfl
                    rotate_left
                    · simp only [Act.put, List.setIfInBounds_toArray, List.set_cons_zero, List.set_cons_succ, i64_w, i32_w]
                      rfl
                    refine take_ (i := 2) (N := some 23) (v := ?_) (a' := ?_) #[true, true, true, true, true, false, false, true, false, true, true, false, false, false, false] rfl rfl (take_ofW HT_.out HW_.out (by kernel_rfl)) (fun _ _ _ h => h) (Or.inl ⟨by rfl, ?_⟩) hHeld ?_ ?_
                    rotate_left
                    · rintro w' ⟨s0, s1, s2, s3, s4, s5, s6, s7⟩
                      go_simp
                      with_reducible rfl
                    rotate_left
                    · simp only [Act.put, List.setIfInBounds_toArray, List.set_cons_zero, List.set_cons_succ, i64_w, i32_w]
                      rfl
                    refine take_ (i := 8) (N := some 29) (v := ?_) (a' := ?_) #[true, true, true, true, true, false, false, true, true, true, true, false, false, false, false] rfl rfl (take_ofW HT_.out HW_.out (by kernel_rfl)) (fun _ _ _ h => h) (Or.inl ⟨by rfl, ?_⟩) hHeld ?_ ?_
                    rotate_left
                    · rintro w' ⟨s0, s1, s2, s3, s4, s5, s6, s7⟩
                      go_simp
                      with_reducible rfl
                    rotate_left
                    · simp only [Act.put, List.setIfInBounds_toArray, List.set_cons_zero, List.set_cons_succ, i64_w, i32_w]
                      rfl
                    refine one_ (i := 5) (N := some 26) #[true, true, true, true, true, true, false, true, true, true, true, false, false, false, false] rfl rfl (one_of HT_.out (by kernel_rfl)) (by decide) (fun K hK => ?_)
                    refine goes_ Tryd.func52 (by kernel_rfl) rfl #[.slice A240_6 ((rd_T39 l0 x17_2).f6).length c240_6, .int .i64 (wrap64 (a1 + 1))] (by rfl) rfl rfl (by (try simp only [List.map_toArray, List.map_cons, List.map_nil]); first | done | rfl | (simp only [List.length_drop, List.length_take]; rfl)) ?_
                    with_reducible refine (ih k2 (by have := HJ2.out; have := HK2.out; omega) _ _ ((rd_T39 l0 x17_2).f6) (wrap64 (a1 + 1)) t242 _ ?side1 ?side2 A9.out).mono ?_
                    (case side1 => repeat (first | exact (Kd.C_below HR240_6.out HB.out) | (with_reducible refine Kd.C_alloc ?_ _) | (with_reducible refine Kd.C_drewN ?_ _) | (with_reducible refine Kd.C_drew ?_)))
                    (case side2 => exact HC240_6.out)
                    rintro e w22 ⟨rfl, hb⟩
                    refine ⟨_, rfl, ?_⟩
                    have n0_ := Aside0.mk (blk_below (g := gb241) (o := .cells #[.int .i64 ((rd_T39 l0 x17_2).f0), .int .i64 ((rd_T39 l0 x17_2).f1), .string ((rd_T39 l0 x17_2).f2), .string ((rd_T39 l0 x17_2).f3), .bool ((rd_T39 l0 x17_2).f4), .bool ((rd_T39 l0 x17_2).f5), .slice A240_6 ((rd_T39 l0 x17_2).f6).length c240_6, .slice A240_7 ((rd_T39 l0 x17_2).f7).length c240_7] 39 (0, 0)) (by (with_reducible repeat (first | refine blk_drewN ?_ _ | refine blk_drew ?_ | refine blk_alloc ?_ _)); exact BK241.out) hb)
                    have n1_ := Aside0.mk (below_step (by repeat (first | (with_reducible first | exact HB.out | apply below_alloc | apply pw_below_drewN | apply below_drew1 | refine below_set ?_ GE241.out) | exact HB.out)) hb)
                    clear BK241
                    clear HB
                    have BK241 := n0_
                    have HB := n1_
                    clear n0_ n1_
                    (try clear hb)
                    (try clear hb2)
                    (try clear hk)
                    (try clear hi)
                    refine hK.out _ _ ⟨(blk_cell BK241.out 0).trans rfl, (blk_cell BK241.out 1).trans rfl, (blk_cell BK241.out 2).trans rfl, (blk_cell BK241.out 3).trans rfl, (blk_cell BK241.out 4).trans rfl, (blk_cell BK241.out 5).trans rfl, (blk_cell BK241.out 6).trans rfl, (blk_cell BK241.out 7).trans rfl⟩ (fun hHeld => ?_)
                    clear hK K
                    refine norm_ (a' := ?_) ?_ ?_
                    rotate_left
                    · show Act.put _ (some 26) _ = _
                      simp only [Act.put, List.setIfInBounds_toArray, List.set_cons_zero, List.set_cons_succ, i64_w, i32_w]
                      rfl
                    refine pure_ (i := 6) (N := some 27) (v := ?_) (a' := ?_) #[true, true, true, true, true, true, true, true, true, true, true, false, false, false, false] rfl rfl (any_of HT_.out (by kernel_rfl)) (fun _ _ _ h => h) (Or.inl ⟨by rfl, ?_⟩) ?_ ?_
                    rotate_left
                    · intro w'
                      go_simp
                      with_reducible rfl
                    rotate_left
                    · simp only [Act.put, List.setIfInBounds_toArray, List.set_cons_zero, List.set_cons_succ, i64_w, i32_w]
                      rfl
                    refine one_ (i := 11) (N := some 32) #[true, true, true, true, true, true, true, true, true, true, true, true, false, false, false] rfl rfl (one_of HT_.out (by kernel_rfl)) (by decide) (fun K hK => ?_)
                    refine goes_ Tryd.func52 (by kernel_rfl) rfl #[.slice A240_7 ((rd_T39 l0 x17_2).f7).length c240_7, .int .i64 (wrap64 (a1 + 1))] (by rfl) rfl rfl (by (try simp only [List.map_toArray, List.map_cons, List.map_nil]); first | done | rfl | (simp only [List.length_drop, List.length_take]; rfl)) ?_
                    with_reducible refine (ih k2 (by have := HJ2.out; have := HK2.out; omega) _ _ ((rd_T39 l0 x17_2).f7) (wrap64 (a1 + 1)) t243 _ ?side1 ?side2 A10.out).mono ?_
                    (case side1 => repeat (first | exact (Kd.C_below HR240_7.out HB.out) | (with_reducible refine Kd.C_alloc ?_ _) | (with_reducible refine Kd.C_drewN ?_ _) | (with_reducible refine Kd.C_drew ?_)))
                    (case side2 => exact HC240_7.out)
                    rintro e w23 ⟨rfl, hb⟩
                    refine ⟨_, rfl, ?_⟩
                    have n0_ := Aside0.mk (blk_below (g := gb241) (o := .cells #[.int .i64 ((rd_T39 l0 x17_2).f0), .int .i64 ((rd_T39 l0 x17_2).f1), .string ((rd_T39 l0 x17_2).f2), .string ((rd_T39 l0 x17_2).f3), .bool ((rd_T39 l0 x17_2).f4), .bool ((rd_T39 l0 x17_2).f5), .slice A240_6 ((rd_T39 l0 x17_2).f6).length c240_6, .slice A240_7 ((rd_T39 l0 x17_2).f7).length c240_7] 39 (0, 0)) (by (with_reducible repeat (first | refine blk_drewN ?_ _ | refine blk_drew ?_ | refine blk_alloc ?_ _)); exact BK241.out) hb)
                    have n1_ := Aside0.mk (below_step (by repeat (first | (with_reducible first | exact HB.out | apply below_alloc | apply pw_below_drewN | apply below_drew1 | refine below_set ?_ GE241.out) | exact HB.out)) hb)
                    clear BK241
                    clear HB
                    have BK241 := n0_
                    have HB := n1_
                    clear n0_ n1_
                    (try clear hb)
                    (try clear hb2)
                    (try clear hk)
                    (try clear hi)
                    refine hK.out _ _ ⟨(blk_cell BK241.out 0).trans rfl, (blk_cell BK241.out 1).trans rfl, (blk_cell BK241.out 2).trans rfl, (blk_cell BK241.out 3).trans rfl, (blk_cell BK241.out 4).trans rfl, (blk_cell BK241.out 5).trans rfl, (blk_cell BK241.out 6).trans rfl, (blk_cell BK241.out 7).trans rfl⟩ (fun hHeld => ?_)
                    clear hK K
                    refine norm_ (a' := ?_) ?_ ?_
                    rotate_left
                    · show Act.put _ (some 32) _ = _
                      simp only [Act.put, List.setIfInBounds_toArray, List.set_cons_zero, List.set_cons_succ, i64_w, i32_w]
                      rfl
                    refine pure_ (i := 12) (N := some 33) (v := ?_) (a' := ?_) #[true, true, true, true, true, true, true, true, true, true, true, true, true, false, false] rfl rfl (any_of HT_.out (by kernel_rfl)) (fun _ _ _ h => h) (Or.inl ⟨by rfl, ?_⟩) ?_ ?_
                    rotate_left
                    · intro w'
                      go_simp
                      with_reducible rfl
                    rotate_left
                    · simp only [Act.put, List.setIfInBounds_toArray, List.set_cons_zero, List.set_cons_succ, i64_w, i32_w]
                      rfl
                    refine pure_ (i := 13) (N := some 34) (v := ?_) (a' := ?_) #[true, true, true, true, true, true, true, true, true, true, true, true, true, true, false] rfl rfl (any_of HT_.out (by kernel_rfl)) (fun _ _ _ h => h) (Or.inl ⟨by rfl, ?_⟩) ?_ ?_
                    rotate_left
                    · intro w'
                      go_simp
                      with_reducible rfl
                    rotate_left
                    · simp only [Act.put, List.setIfInBounds_toArray, List.set_cons_zero, List.set_cons_succ, i64_w, i32_w]
                      rfl
                    refine pure_ (i := 14) (N := some 5) (v := ?_) (a' := ?_) #[true, true, true, true, true, true, true, true, true, true, true, true, true, true, true] rfl rfl (any_of HT_.out (by kernel_rfl)) (fun _ _ _ h => h) (Or.inl ⟨by rfl, ?_⟩) ?_ ?_
                    rotate_left
                    · intro w'
                      go_simp
                      with_reducible rfl
                    rotate_left
                    · simp only [Act.put, List.setIfInBounds_toArray, List.set_cons_zero, List.set_cons_succ, i64_w, i32_w]
                      rfl
                    refine done_ (done_of HT_.out (by kernel_rfl)) ?_
                    try go_wp2
                    go_roundg k2
                    case measure => have := HJ2.out; have := HK2.out; omega
                    case rel => exact ⟨(wrap64 (x5_2 + (wrap64 ((wrap64 (1 + t242)) + t243)))), (wrap64 (x17_2 + 1)), (by first | rfl | (simp; done) | (simp [*]; done)), (by first | rfl | (simp; done) | (simp [*]; done)), H', ⟨by have := HJ2.out; have := HK2.out; omega⟩, ⟨by repeat (first | (with_reducible first | exact HB.out | apply below_alloc | apply pw_below_drewN | apply below_drew1 | refine below_set ?_ GE241.out) | exact HB.out)⟩⟩
                · rw [if_neg c8] at H
                  exact absurd H (by simp)
              · rw [if_neg c7] at H
                exact absurd H (by simp)
            · rw [if_neg c6] at H
              have c6b0 : decide (x17_2 < (l0.length : Int)) = false := decide_eq_false c6
              clear c6
              obtain rfl := Option.some.inj H
              go_wp2
              go_ret
              exact ⟨by first | rfl | (simp [errW_none, errW_some] <;> rfl) | (simp [*, errW_none, errW_some] <;> rfl), by repeat (first | (with_reducible first | exact HB.out | apply below_alloc | apply pw_below_drewN | apply below_drew1) | exact HB.out)⟩
def tmplpipelaw12_TooLarge.f (k : Nat) (l0 : List (S39)) : Option (Int) := (tmplpipelaw12_weight.f k l0 0).bind fun t244 => (if t244 > 2000 then (some 1) else (some 0))
set_option maxHeartbeats 8000000 in
set_option maxRecDepth 100000 in
theorem tmplpipelaw12_TooLarge.calls (k : Nat) (A0 : Option Addr) (c0 : Nat) (l0 : List (S39)) (r : Int) (w : World) (hr0 : Kd.C k39 w A0 l0.length l0) (hc0 : l0.length ≤ c0) (h : tmplpipelaw12_TooLarge.f k l0 = some r) :
    Calls Tryd.prog 27 #[.slice A0 l0.length c0] w fun e w' => e = .returned (.int .i64 r) ∧ Below w.heap.size w w' := by
  have HR0 := Aside0.mk hr0
  have HC0 := Aside0.mk hc0
  clear hr0 hc0
  have HB := Aside0.mk (Below.refl w.heap.size w)
  have H : ((tmplpipelaw12_weight.f k l0 0).bind fun t244 => (if t244 > 2000 then (some 1) else (some 0))) = some r := h
  clear h
  replace H := Option.bind_eq_some_iff.mp H
  obtain ⟨t244, A20, H⟩ := H
  replace H : (if t244 > 2000 then (some 1) else (some 0)) = some r := H
  have A2 := Aside0.mk A20
  clear A20
  by_cases c3 : t244 > 2000
  · rw [if_pos c3] at H
    have c3b0 : decide (2000 < t244) = true := decide_eq_true c3
    clear c3
    obtain rfl := Option.some.inj H
    go_enter Tryd.func27, Tryd.ntmps27
    go_wp2_with (first | ((with_reducible refine gate_callee (f := 52) rfl ?_); refine goesL_ (some 4) rfl rfl Tryd.func52 (by kernel_rfl) rfl #[.slice A0 l0.length c0, .int .i64 0] rfl (by (try simp only [List.map_toArray, List.map_cons, List.map_nil]); first | done | rfl | (simp only [List.length_drop, List.length_take]; rfl)) ?_; (with_reducible refine (tmplpipelaw12_weight.calls k _ _ l0 0 t244 _ ?side1 ?side2 A2.out).mono ?_); (case side1 => repeat (first | exact HR0.out | (with_reducible refine Kd.C_alloc ?_ _) | (with_reducible refine Kd.C_drewN ?_ _) | (with_reducible refine Kd.C_drew ?_))); (case side2 => exact HC0.out); rintro e w4 ⟨rfl, hb⟩; refine ⟨_, rfl, ?_⟩; have n0_ := Aside0.mk (below_step (by repeat (first | (with_reducible first | exact HB.out | apply below_alloc | apply pw_below_drewN | apply below_drew1) | exact HB.out)) hb); clear HB; have HB := n0_; clear n0_; (try clear hb); (try clear hb2); (try clear hk); (try clear hi)))
    go_ret
    exact ⟨by first | rfl | (simp [errW_none, errW_some] <;> rfl) | (simp [*, errW_none, errW_some] <;> rfl), by repeat (first | (with_reducible first | exact HB.out | apply below_alloc | apply pw_below_drewN | apply below_drew1) | exact HB.out)⟩
  · rw [if_neg c3] at H
    have c3b0 : decide (2000 < t244) = false := decide_eq_false c3
    clear c3
    obtain rfl := Option.some.inj H
    go_enter Tryd.func27, Tryd.ntmps27
    go_wp2_with (first | ((with_reducible refine gate_callee (f := 52) rfl ?_); refine goesL_ (some 4) rfl rfl Tryd.func52 (by kernel_rfl) rfl #[.slice A0 l0.length c0, .int .i64 0] rfl (by (try simp only [List.map_toArray, List.map_cons, List.map_nil]); first | done | rfl | (simp only [List.length_drop, List.length_take]; rfl)) ?_; (with_reducible refine (tmplpipelaw12_weight.calls k _ _ l0 0 t244 _ ?side1 ?side2 A2.out).mono ?_); (case side1 => repeat (first | exact HR0.out | (with_reducible refine Kd.C_alloc ?_ _) | (with_reducible refine Kd.C_drewN ?_ _) | (with_reducible refine Kd.C_drew ?_))); (case side2 => exact HC0.out); rintro e w5 ⟨rfl, hb⟩; refine ⟨_, rfl, ?_⟩; have n0_ := Aside0.mk (below_step (by repeat (first | (with_reducible first | exact HB.out | apply below_alloc | apply pw_below_drewN | apply below_drew1) | exact HB.out)) hb); clear HB; have HB := n0_; clear n0_; (try clear hb); (try clear hb2); (try clear hk); (try clear hi)))
    go_ret
    exact ⟨by first | rfl | (simp [errW_none, errW_some] <;> rfl) | (simp [*, errW_none, errW_some] <;> rfl), by repeat (first | (with_reducible first | exact HB.out | apply below_alloc | apply pw_below_drewN | apply below_drew1) | exact HB.out)⟩
end Go.Proofs.YtgdpojleejdfaaaDoor.Px
