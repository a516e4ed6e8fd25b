import Derived.Test.YtgdpojleejdfaaaDoorPOPx8
import Derived.Test.YtgdpojleejdfaaaDoorPOPx9
import Derived.Test.YtgdpojleejdfaaaDoorPOPx0
import Derived.Test.YtgdpojleejdfaaaDoorPOQa1
import Derived.Test.YtgdpojleejdfaaaDoorPOPz
import Derived.Test.YtgdpojleejdfaaaDoorPORn
import Derived.Test.YtgdpojleejdfaaaDoorPOMr
import Derived.Test.YtgdpojleejdfaaaDoorPOPx6
namespace Go.Proofs.YtgdpojleejdfaaaDoor.Px
open Go.RowKit Go.Proofs.YtgdpojleejdfaaaDoorW.PrintWords Go.Proofs.YtgdpojleejdfaaaDoorW.PrintLast Go.Proofs.YtgdpojleejdfaaaDoorW.PrintMore
attribute [local go_sem] max2_int min2_int max_two min_two max_three min_three max_four min_four   -- for this text's walks alone
set_option linter.unusedVariables false
set_option linter.unusedSimpArgs false
mutual
def parse_Nest.l0 : Nat → Int → List (S39) → Int → Int → Option (Int)
  | 0, _, _, _, _ => none
  | k + 1, x3, x8, x9, x10 => if x10 < x9 then (if 0 ≤ x10 then (if x10 < (x8.length : Int) then ((parse_branches.f ((rd_T39 x8 x10).f0) ((rd_T39 x8 x10).f1) ((rd_T39 x8 x10).f2) ((rd_T39 x8 x10).f3) ((rd_T39 x8 x10).f4) ((rd_T39 x8 x10).f5) ((rd_T39 x8 x10).f6) ((rd_T39 x8 x10).f7)).bind fun t201 => (parse_Nest.l1 k x3 x8 x9 x10 t201 (t201.length : Int) 0)) else (none)) else (none)) else (some x3)
def parse_Nest.l1 : Nat → Int → List (S39) → Int → Int → List (List (S39)) → Int → Int → Option (Int)
  | 0, _, _, _, _, _, _, _ => none
  | k + 1, x3, x8, x9, x10, x15, x16, x17 => if x17 < x16 then (if 0 ≤ x17 then (if x17 < (x15.length : Int) then ((parse_Nest.f k (rd_L6 x15 x17)).bind fun t205 => (parse_Nest.l1 k (mx x3 (wrap64 (1 + t205))) x8 x9 x10 x15 x16 (wrap64 (x17 + 1)))) else (none)) else (none)) else (parse_Nest.l0 k x3 x8 x9 (wrap64 (x10 + 1)))
def parse_Nest.f : Nat → List (S39) → Option (Int)
  | 0, _ => none
  | k + 1, l0 => parse_Nest.l0 k 0 l0 (l0.length : Int) 0
end
set_option maxHeartbeats 8000000 in
set_option maxRecDepth 100000 in
theorem parse_Nest.calls (k : Nat) : ∀ (A0 : Option Addr) (c0 : Nat) (l0 : List (S39)) (r : Int) (w : World) (hr0 : Kd.C k39 w A0 l0.length l0) (hc0 : l0.length ≤ c0) (h : parse_Nest.f k l0 = some r),
    Calls Tryd.prog 29 #[.slice A0 l0.length c0] w fun e w' => e = .returned (.int .i64 r) ∧ Below w.heap.size w w' := by
  induction k using Nat.strongRecOn with
  | _ k ih =>
  intro A0 c0 l0 r w hr0 hc0 h
  cases k with
  | zero => exact absurd h (by simp [parse_Nest.f])
  | succ k =>
  simp only [parse_Nest.f] at h
  have hu39 := Tryd.underlying39
  have HR0 := Aside0.mk hr0
  have HC0 := Aside0.mk hc0
  clear hr0 hc0
  have HB := Aside0.mk (Below.refl w.heap.size w)
  have H : (parse_Nest.l0 k 0 l0 (l0.length : Int) 0) = some r := h
  clear h
  have H' := Aside0.mk H
  clear H
  go_enter Tryd.func29, Tryd.ntmps29
  go_wp2
  go_loopg [3, 10] k (fun kq v3 v10 w' => ∃ (x3_1 : Int) (x10_1 : Int), v3 = .int .i64 x3_1 ∧ v10 = .int .i64 x10_1 ∧ Aside0 (parse_Nest.l0 kq x3_1 l0 (l0.length : Int) x10_1 = some r) ∧ Aside0 (kq ≤ k) ∧ Aside0 (Below w.heap.size w w'))
  case atStart => exact ⟨(0), (0), (by first | rfl | (simp; done) | (simp [*]; done)), (by first | rfl | (simp; done) | (simp [*]; done)), H', ⟨Nat.le_refl _⟩, ⟨by repeat (first | (with_reducible first | exact HB.out | apply below_alloc | apply pw_below_drewN | apply below_drew1) | exact HB.out)⟩⟩
  case round =>
    clear H'
    obtain ⟨x3_1, x10_1, rfl, rfl, HA, HK1, HB⟩ := hrel
    cases gk with
    | zero => exact absurd HA.out (by simp [parse_Nest.l0])
    | succ k1 =>
      have H := HA.out
      clear HA
      simp only [parse_Nest.l0] at H
      by_cases c2 : x10_1 < (l0.length : Int)
      · rw [if_pos c2] at H
        have c2b0 : decide (x10_1 < (l0.length : Int)) = true := decide_eq_true c2
        clear c2
        by_cases c3 : 0 ≤ x10_1
        · rw [if_pos c3] at H
          have c3b0 : decide (0 ≤ x10_1) = true := decide_eq_true c3
          clear c3
          by_cases c4 : x10_1 < (l0.length : Int)
          · rw [if_pos c4] at H
            have c4b0 : decide (x10_1 < (l0.length : Int)) = true := decide_eq_true c4
            clear c4
            replace H := Option.bind_eq_some_iff.mp H
            obtain ⟨t201, A50, H⟩ := H
            replace H : (parse_Nest.l1 k1 x3_1 l0 (l0.length : Int) x10_1 t201 (t201.length : Int) 0) = some r := H
            have A5 := Aside0.mk A50
            clear A50
            have H' := Aside0.mk H
            clear H
            have p199 : 0 ≤ (x10_1 : Int) := of_decide_eq_true (by first | (with_reducible assumption) | assumption)
            have q199 : x10_1 < (l0.length : Int) := of_decide_eq_true (by first | (with_reducible assumption) | assumption)
            obtain ⟨ad199, A199_6, c199_6, A199_7, c199_7, e199, hx199_0, hx199_1, hx199_2, hx199_3, hx199_4, hx199_5, hx199_6, hx199_7, hl199_6, hi199_6, hl199_7, hi199_7⟩ := at_T39 HR0.out x10_1 p199 q199
            cases e199
            replace hx199_0 := (HB.out.cell (World.block_lt_of_cell? w _ hx199_0)).trans hx199_0
            replace hx199_1 := (HB.out.cell (World.block_lt_of_cell? w _ hx199_1)).trans hx199_1
            replace hx199_2 := (HB.out.cell (World.block_lt_of_cell? w _ hx199_2)).trans hx199_2
            replace hx199_3 := (HB.out.cell (World.block_lt_of_cell? w _ hx199_3)).trans hx199_3
            replace hx199_4 := (HB.out.cell (World.block_lt_of_cell? w _ hx199_4)).trans hx199_4
            replace hx199_5 := (HB.out.cell (World.block_lt_of_cell? w _ hx199_5)).trans hx199_5
            replace hx199_6 := (HB.out.cell (World.block_lt_of_cell? w _ hx199_6)).trans hx199_6
            replace hx199_7 := (HB.out.cell (World.block_lt_of_cell? w _ hx199_7)).trans hx199_7
            have HR199_6 := Aside0.mk hi199_6
            have HC199_6 := Aside0.mk hl199_6
            clear hi199_6 hl199_6
            have HR199_7 := Aside0.mk hi199_7
            have HC199_7 := Aside0.mk hl199_7
            clear hi199_7 hl199_7
            replace p199 := eq_true p199
            replace q199 := eq_true q199
            go_wp2_with (first | ((with_reducible refine gate_dst (N := 5) rfl ?_); refine box_event ?hg (N := 5) ?hd (cs := #[.int .i64 0, .int .i64 0, .string (⟨#[]⟩ : ByteArray), .string (⟨#[]⟩ : ByteArray), .bool false, .bool false, .slice none 0 0, .slice none 0 0]) (t := 39) ?hr ?_; (case hd => rfl); (case hg => rfl); (case hr => first | (go_simp; done) | (go_simp; rfl)); intro gb200 hg w6 hbox hb; have n0_ := Aside0.mk (below_step (by repeat (first | (with_reducible first | exact HB.out | apply below_alloc | apply pw_below_drewN | apply below_drew1) | exact HB.out)) hb); have n1_ := Aside0.mk (hbox); have n2_ := Aside0.mk ((by rw [hg]; exact (below_size (by repeat (first | (with_reducible first | exact HB.out | apply below_alloc | apply pw_below_drewN | apply below_drew1) | exact HB.out))) : w.heap.size ≤ gb200)); have n3_ := Aside0.mk ((by rw [hg]; exact (below_size (by repeat (first | (with_reducible first | exact HB.out | apply below_alloc | apply pw_below_drewN | apply below_drew1) | exact HB.out))) : w.heap.size ≤ gb200)); clear HB; have HB := n0_; have BK200 := n1_; have GW200 := n2_; have GE200 := n3_; clear n0_ n1_ n2_ n3_; clear hb hbox hg; have hcz7_0 : w6.cell? ⟨gb200, 0, none⟩ = some (.int .i64 0) := (blk_cell BK200.out 0).trans rfl; have hcz7_1 : w6.cell? ⟨gb200, 1, none⟩ = some (.int .i64 0) := (blk_cell BK200.out 1).trans rfl; have hcz7_2 : w6.cell? ⟨gb200, 2, none⟩ = some (.string (⟨#[]⟩ : ByteArray)) := (blk_cell BK200.out 2).trans rfl; have hcz7_3 : w6.cell? ⟨gb200, 3, none⟩ = some (.string (⟨#[]⟩ : ByteArray)) := (blk_cell BK200.out 3).trans rfl; have hcz7_4 : w6.cell? ⟨gb200, 4, none⟩ = some (.bool false) := (blk_cell BK200.out 4).trans rfl; have hcz7_5 : w6.cell? ⟨gb200, 5, none⟩ = some (.bool false) := (blk_cell BK200.out 5).trans rfl; have hcz7_6 : w6.cell? ⟨gb200, 6, none⟩ = some (.slice none 0 0) := (blk_cell BK200.out 6).trans rfl; have hcz7_7 : w6.cell? ⟨gb200, 7, none⟩ = some (.slice none 0 0) := (blk_cell BK200.out 7).trans rfl; have hfz7_0 := blk_frozen BK200.out 0; have hfz7_1 := blk_frozen BK200.out 1; have hfz7_2 := blk_frozen BK200.out 2; have hfz7_3 := blk_frozen BK200.out 3; have hfz7_4 := blk_frozen BK200.out 4; have hfz7_5 := blk_frozen BK200.out 5; have hfz7_6 := blk_frozen BK200.out 6; have hfz7_7 := blk_frozen BK200.out 7) | ((with_reducible refine gate_store (t := 39) (p := 5) rfl ?_); refine store_event (t := 39) (p := 5) (v := ?vo_w8) (w1 := ((((((((w6.setCell ⟨gb200, 0, none⟩ (.int .i64 ((rd_T39 l0 x10_1).f0))).setCell ⟨gb200, 1, none⟩ (.int .i64 ((rd_T39 l0 x10_1).f1))).setCell ⟨gb200, 2, none⟩ (.string ((rd_T39 l0 x10_1).f2))).setCell ⟨gb200, 3, none⟩ (.string ((rd_T39 l0 x10_1).f3))).setCell ⟨gb200, 4, none⟩ (.bool ((rd_T39 l0 x10_1).f4))).setCell ⟨gb200, 5, none⟩ (.bool ((rd_T39 l0 x10_1).f5))).setCell ⟨gb200, 6, none⟩ (.slice A199_6 ((rd_T39 l0 x10_1).f6).length c199_6)).setCell ⟨gb200, 7, none⟩ (.slice A199_7 ((rd_T39 l0 x10_1).f7).length c199_7))) ?hg ?ho ?hn ?hr ?_; (case ho => rfl); (case hg => rfl); (case hn => rfl); (case hr => first | (go_simp; done) | (go_simp; rfl)); intro w8 hw; have n0_ : Aside0 (w8.heap[gb200]? = some (.cells #[.int .i64 ((rd_T39 l0 x10_1).f0), .int .i64 ((rd_T39 l0 x10_1).f1), .string ((rd_T39 l0 x10_1).f2), .string ((rd_T39 l0 x10_1).f3), .bool ((rd_T39 l0 x10_1).f4), .bool ((rd_T39 l0 x10_1).f5), .slice A199_6 ((rd_T39 l0 x10_1).f6).length c199_6, .slice A199_7 ((rd_T39 l0 x10_1).f7).length c199_7] 39 (0, 0))) := ⟨(by rw [hw]; exact (by (with_reducible repeat (first | refine blk_drewN ?_ _ | refine blk_drew ?_ | refine blk_alloc ?_ _)); refine blk_put (cs := #[.int .i64 ((rd_T39 l0 x10_1).f0), .int .i64 ((rd_T39 l0 x10_1).f1), .string ((rd_T39 l0 x10_1).f2), .string ((rd_T39 l0 x10_1).f3), .bool ((rd_T39 l0 x10_1).f4), .bool ((rd_T39 l0 x10_1).f5), .slice A199_6 ((rd_T39 l0 x10_1).f6).length c199_6, .slice none 0 0]) ?_ 7 _ rfl; (with_reducible repeat (first | refine blk_drewN ?_ _ | refine blk_drew ?_ | refine blk_alloc ?_ _)); refine blk_put (cs := #[.int .i64 ((rd_T39 l0 x10_1).f0), .int .i64 ((rd_T39 l0 x10_1).f1), .string ((rd_T39 l0 x10_1).f2), .string ((rd_T39 l0 x10_1).f3), .bool ((rd_T39 l0 x10_1).f4), .bool ((rd_T39 l0 x10_1).f5), .slice none 0 0, .slice none 0 0]) ?_ 6 _ rfl; (with_reducible repeat (first | refine blk_drewN ?_ _ | refine blk_drew ?_ | refine blk_alloc ?_ _)); refine blk_put (cs := #[.int .i64 ((rd_T39 l0 x10_1).f0), .int .i64 ((rd_T39 l0 x10_1).f1), .string ((rd_T39 l0 x10_1).f2), .string ((rd_T39 l0 x10_1).f3), .bool ((rd_T39 l0 x10_1).f4), .bool false, .slice none 0 0, .slice none 0 0]) ?_ 5 _ rfl; (with_reducible repeat (first | refine blk_drewN ?_ _ | refine blk_drew ?_ | refine blk_alloc ?_ _)); refine blk_put (cs := #[.int .i64 ((rd_T39 l0 x10_1).f0), .int .i64 ((rd_T39 l0 x10_1).f1), .string ((rd_T39 l0 x10_1).f2), .string ((rd_T39 l0 x10_1).f3), .bool false, .bool false, .slice none 0 0, .slice none 0 0]) ?_ 4 _ rfl; (with_reducible repeat (first | refine blk_drewN ?_ _ | refine blk_drew ?_ | refine blk_alloc ?_ _)); refine blk_put (cs := #[.int .i64 ((rd_T39 l0 x10_1).f0), .int .i64 ((rd_T39 l0 x10_1).f1), .string ((rd_T39 l0 x10_1).f2), .string (⟨#[]⟩ : ByteArray), .bool false, .bool false, .slice none 0 0, .slice none 0 0]) ?_ 3 _ rfl; (with_reducible repeat (first | refine blk_drewN ?_ _ | refine blk_drew ?_ | refine blk_alloc ?_ _)); refine blk_put (cs := #[.int .i64 ((rd_T39 l0 x10_1).f0), .int .i64 ((rd_T39 l0 x10_1).f1), .string (⟨#[]⟩ : ByteArray), .string (⟨#[]⟩ : ByteArray), .bool false, .bool false, .slice none 0 0, .slice none 0 0]) ?_ 2 _ rfl; (with_reducible repeat (first | refine blk_drewN ?_ _ | refine blk_drew ?_ | refine blk_alloc ?_ _)); refine blk_put (cs := #[.int .i64 ((rd_T39 l0 x10_1).f0), .int .i64 0, .string (⟨#[]⟩ : ByteArray), .string (⟨#[]⟩ : ByteArray), .bool false, .bool false, .slice none 0 0, .slice none 0 0]) ?_ 1 _ rfl; (with_reducible repeat (first | refine blk_drewN ?_ _ | refine blk_drew ?_ | refine blk_alloc ?_ _)); refine blk_put (cs := #[.int .i64 0, .int .i64 0, .string (⟨#[]⟩ : ByteArray), .string (⟨#[]⟩ : ByteArray), .bool false, .bool false, .slice none 0 0, .slice none 0 0]) ?_ 0 _ rfl; (with_reducible repeat (first | refine blk_drewN ?_ _ | refine blk_drew ?_ | refine blk_alloc ?_ _)); exact BK200.out))⟩; have n1_ : Aside0 (Below w.heap.size w w8) := ⟨(by rw [hw]; exact (by repeat (first | (with_reducible first | exact HB.out | apply below_alloc | apply pw_below_drewN | apply below_drew1 | refine below_set ?_ GE200.out) | exact HB.out)))⟩; clear hw; clear BK200; clear HB; have BK200 := n0_; have HB := n1_; clear n0_ n1_; have hcz9_0 : w8.cell? ⟨gb200, 0, none⟩ = some (.int .i64 ((rd_T39 l0 x10_1).f0)) := (blk_cell BK200.out 0).trans rfl; have hcz9_1 : w8.cell? ⟨gb200, 1, none⟩ = some (.int .i64 ((rd_T39 l0 x10_1).f1)) := (blk_cell BK200.out 1).trans rfl; have hcz9_2 : w8.cell? ⟨gb200, 2, none⟩ = some (.string ((rd_T39 l0 x10_1).f2)) := (blk_cell BK200.out 2).trans rfl; have hcz9_3 : w8.cell? ⟨gb200, 3, none⟩ = some (.string ((rd_T39 l0 x10_1).f3)) := (blk_cell BK200.out 3).trans rfl; have hcz9_4 : w8.cell? ⟨gb200, 4, none⟩ = some (.bool ((rd_T39 l0 x10_1).f4)) := (blk_cell BK200.out 4).trans rfl; have hcz9_5 : w8.cell? ⟨gb200, 5, none⟩ = some (.bool ((rd_T39 l0 x10_1).f5)) := (blk_cell BK200.out 5).trans rfl; have hcz9_6 : w8.cell? ⟨gb200, 6, none⟩ = some (.slice A199_6 ((rd_T39 l0 x10_1).f6).length c199_6) := (blk_cell BK200.out 6).trans rfl; have hcz9_7 : w8.cell? ⟨gb200, 7, none⟩ = some (.slice A199_7 ((rd_T39 l0 x10_1).f7).length c199_7) := (blk_cell BK200.out 7).trans rfl; have hfz9_0 := blk_frozen BK200.out 0; have hfz9_1 := blk_frozen BK200.out 1; have hfz9_2 := blk_frozen BK200.out 2; have hfz9_3 := blk_frozen BK200.out 3; have hfz9_4 := blk_frozen BK200.out 4; have hfz9_5 := blk_frozen BK200.out 5; have hfz9_6 := blk_frozen BK200.out 6; have hfz9_7 := blk_frozen BK200.out 7) | ((with_reducible refine gate_callee (f := 46) rfl ?_); refine goesL_ (some 15) rfl rfl Tryd.func46 (by kernel_rfl) rfl #[.agg #[.int .i64 ((rd_T39 l0 x10_1).f0), .int .i64 ((rd_T39 l0 x10_1).f1), .string ((rd_T39 l0 x10_1).f2), .string ((rd_T39 l0 x10_1).f3), .bool ((rd_T39 l0 x10_1).f4), .bool ((rd_T39 l0 x10_1).f5), .slice A199_6 ((rd_T39 l0 x10_1).f6).length c199_6, .slice A199_7 ((rd_T39 l0 x10_1).f7).length c199_7]] rfl (by (try simp only [List.map_toArray, List.map_cons, List.map_nil]); first | done | rfl | (simp only [List.length_drop, List.length_take]; rfl)) ?_; (with_reducible refine (parse_branches.calls ((rd_T39 l0 x10_1).f0) ((rd_T39 l0 x10_1).f1) ((rd_T39 l0 x10_1).f2) ((rd_T39 l0 x10_1).f3) ((rd_T39 l0 x10_1).f4) ((rd_T39 l0 x10_1).f5) (fun k_ => k_ < w.heap.size) _ _ ((rd_T39 l0 x10_1).f6) (fun k_ => k_ < w.heap.size) _ _ ((rd_T39 l0 x10_1).f7) t201 _ ?side1 ?side2 A5.out).mono ?_); (case side1 => exact Kd.V_mk HC199_6.out (Kd.F_below (Kd.C_F k39_heap HR199_6.out) (by repeat (first | (with_reducible first | exact HB.out | apply below_alloc | apply pw_below_drewN | apply below_drew1 | refine below_set ?_ GE200.out) | exact HB.out)))); (case side2 => exact Kd.V_mk HC199_7.out (Kd.F_below (Kd.C_F k39_heap HR199_7.out) (by repeat (first | (with_reducible first | exact HB.out | apply below_alloc | apply pw_below_drewN | apply below_drew1 | refine below_set ?_ GE200.out) | exact HB.out)))); rintro e w10 ⟨v202, rfl, ho0, hb⟩; refine ⟨_, rfl, ?_⟩; have n0_ := Aside0.mk (Kd.N_lower (Kd.N_mono (ok' := fun k_ => k_ ≠ gb200) ho0 (fun k_ hk_ => Or.elim hk_ (fun hs_ => Or.elim hs_ (fun hs_ => fun e_ => Nat.not_le.2 hs_ (by rw [e_]; exact GW200.out)) (fun hs_ => fun e_ => Nat.not_le.2 hs_ (by rw [e_]; exact GW200.out))) (fun hn_ => (Kd.freshB (g := gb200) (o := .cells #[.int .i64 ((rd_T39 l0 x10_1).f0), .int .i64 ((rd_T39 l0 x10_1).f1), .string ((rd_T39 l0 x10_1).f2), .string ((rd_T39 l0 x10_1).f3), .bool ((rd_T39 l0 x10_1).f4), .bool ((rd_T39 l0 x10_1).f5), .slice A199_6 ((rd_T39 l0 x10_1).f6).length c199_6, .slice A199_7 ((rd_T39 l0 x10_1).f7).length c199_7] 39 (0, 0)) (by (with_reducible repeat (first | refine blk_drewN ?_ _ | refine blk_drew ?_ | refine blk_alloc ?_ _)); exact BK200.out) k_ hn_)))) (below_size (by repeat (first | (with_reducible first | exact HB.out | apply below_alloc | apply pw_below_drewN | apply below_drew1 | refine below_set ?_ GE200.out) | exact HB.out)))); have n1_ := Aside0.mk (blk_below (g := gb200) (o := .cells #[.int .i64 ((rd_T39 l0 x10_1).f0), .int .i64 ((rd_T39 l0 x10_1).f1), .string ((rd_T39 l0 x10_1).f2), .string ((rd_T39 l0 x10_1).f3), .bool ((rd_T39 l0 x10_1).f4), .bool ((rd_T39 l0 x10_1).f5), .slice A199_6 ((rd_T39 l0 x10_1).f6).length c199_6, .slice A199_7 ((rd_T39 l0 x10_1).f7).length c199_7] 39 (0, 0)) (by (with_reducible repeat (first | refine blk_drewN ?_ _ | refine blk_drew ?_ | refine blk_alloc ?_ _)); exact BK200.out) hb); have n2_ := Aside0.mk (below_step (by repeat (first | (with_reducible first | exact HB.out | apply below_alloc | apply pw_below_drewN | apply below_drew1 | refine below_set ?_ GE200.out) | exact HB.out)) hb); clear BK200; clear HB; have HO203 := n0_; have BK200 := n1_; have HB := n2_; clear n0_ n1_ n2_; (try clear hb); (try clear hb2); (try clear hk); (try clear hi); (try clear ho0); obtain ⟨Ao11, co11, eo11⟩ := Kd.N_slice HO203.out; subst eo11))
            go_loopg [3, 17] k1 (fun kq v3 v17 w' => ∃ (x3_2 : Int) (x17_2 : Int), v3 = .int .i64 x3_2 ∧ v17 = .int .i64 x17_2 ∧ Aside0 (parse_Nest.l1 kq x3_2 l0 (l0.length : Int) x10_1 t201 (t201.length : Int) x17_2 = some r) ∧ Aside0 (kq ≤ k1) ∧ Aside0 (Kd.N (Kd.slice 39 k39) 32 w' w.heap.size (fun k_ => k_ ≠ gb200) (.slice Ao11 t201.length co11) t201) ∧ Aside0 (w'.heap[gb200]? = some (.cells #[.int .i64 ((rd_T39 l0 x10_1).f0), .int .i64 ((rd_T39 l0 x10_1).f1), .string ((rd_T39 l0 x10_1).f2), .string ((rd_T39 l0 x10_1).f3), .bool ((rd_T39 l0 x10_1).f4), .bool ((rd_T39 l0 x10_1).f5), (.slice A199_6 ((rd_T39 l0 x10_1).f6).length c199_6), (.slice A199_7 ((rd_T39 l0 x10_1).f7).length c199_7)] 39 (0, 0))) ∧ Aside0 (Below w.heap.size w w'))
            case atStart => exact ⟨(x3_1), (0), (by first | rfl | (simp; done) | (simp [*]; done)), (by first | rfl | (simp; done) | (simp [*]; done)), H', ⟨Nat.le_refl _⟩, ⟨by (with_reducible repeat (first | apply Kd.N_alloc | apply Kd.N_drewN | apply Kd.N_drew)); exact HO203.out⟩, ⟨by (with_reducible repeat (first | refine blk_drewN ?_ _ | refine blk_drew ?_ | refine blk_alloc ?_ _)); exact BK200.out⟩, ⟨by repeat (first | (with_reducible first | exact HB.out | apply below_alloc | apply pw_below_drewN | apply below_drew1 | refine below_set ?_ GE200.out) | exact HB.out)⟩⟩
            case round =>
              clear H'
              try clear c1
              try clear p1
              try clear q1
              try clear hx1
              try clear c2
              try clear c2b0
              try clear p2
              try clear c3
              try clear c3b0
              try clear c4
              try clear c4b0
              try clear hcz7_0
              try clear hcz7_1
              try clear hcz7_2
              try clear hcz7_3
              try clear hcz7_4
              try clear hcz7_5
              try clear hcz7_6
              try clear hcz7_7
              try clear hcz9_0
              try clear hcz9_1
              try clear hcz9_2
              try clear hcz9_3
              try clear hcz9_4
              try clear hcz9_5
              try clear hcz9_6
              try clear hcz9_7
              try clear hfz7_0
              try clear hfz7_1
              try clear hfz7_2
              try clear hfz7_3
              try clear hfz7_4
              try clear hfz7_5
              try clear hfz7_6
              try clear hfz7_7
              try clear hfz9_0
              try clear hfz9_1
              try clear hfz9_2
              try clear hfz9_3
              try clear hfz9_4
              try clear hfz9_5
              try clear hfz9_6
              try clear hfz9_7
              try clear hx199_0
              try clear hx199_1
              try clear hx199_2
              try clear hx199_3
              try clear hx199_4
              try clear hx199_5
              try clear hx199_6
              try clear hx199_7
              try clear p199
              try clear q199
              obtain ⟨x3_2, x17_2, rfl, rfl, HA, HK2, HO_15, BK200, HB⟩ := hrel
              cases gk with
              | zero => exact absurd HA.out (by simp [parse_Nest.l1])
              | succ k2 =>
                have H := HA.out
                clear HA
                simp only [parse_Nest.l1] at H
                by_cases c12 : x17_2 < (t201.length : Int)
                · rw [if_pos c12] at H
                  have c12b0 : decide (x17_2 < (t201.length : Int)) = true := decide_eq_true c12
                  clear c12
                  by_cases c13 : 0 ≤ x17_2
                  · rw [if_pos c13] at H
                    have c13b0 : decide (0 ≤ x17_2) = true := decide_eq_true c13
                    clear c13
                    by_cases c14 : x17_2 < (t201.length : Int)
                    · rw [if_pos c14] at H
                      have c14b0 : decide (x17_2 < (t201.length : Int)) = true := decide_eq_true c14
                      clear c14
                      replace H := Option.bind_eq_some_iff.mp H
                      obtain ⟨t205, A150, H⟩ := H
                      replace H : (parse_Nest.l1 k2 (mx x3_2 (wrap64 (1 + t205))) l0 (l0.length : Int) x10_1 t201 (t201.length : Int) (wrap64 (x17_2 + 1))) = some r := H
                      have A15 := Aside0.mk A150
                      clear A150
                      obtain ⟨ji16, hji16⟩ : ∃ j_ : Int, (mx x3_2 (wrap64 (1 + t205))) = j_ := ⟨_, rfl⟩
                      replace H : (parse_Nest.l1 k2 ji16 l0 (l0.length : Int) x10_1 t201 (t201.length : Int) (wrap64 (x17_2 + 1))) = some r := by first | (rw [hji16] at H; exact H) | (simp only [hji16] at H ⊢; exact H)
                      (try rw [hji16] at A15)
                      have hji16_ : (if x3_2 < (wrap64 (1 + t205)) then (wrap64 (1 + t205)) else x3_2) = ji16 := hji16
                      have H' := Aside0.mk H
                      clear H
                      have p204 : 0 ≤ (x17_2 : Int) := of_decide_eq_true (by first | (with_reducible assumption) | assumption)
                      have q204 : x17_2 < (t201.length : Int) := of_decide_eq_true (by first | (with_reducible assumption) | assumption)
                      obtain ⟨ad204, A204_0, c204_0, e204, hx204_0, hl204_0, hi204_0⟩ := at_L6 (Kd.N_reads' HO_15.out).2.2 x17_2 p204 q204
                      cases e204
                      obtain ⟨ce204, hce204, hMe204, hcc204⟩ := Kd.N_get HO_15.out [] x17_2 p204 (by first | exact q204 | exact of_decide_eq_true (by first | (with_reducible assumption) | assumption) | (have e_ := (Kd.N_reads' HO_15.out).1; omega))
                      obtain ⟨ua204_0, uc204_0, rfl, ul204_0, ge204_0⟩ := Kd.FK_slice_open hMe204
                      have hv204_0 := hcc204 0 _ rfl
                      rw [Nat.add_zero, show ((Kd.slice 39 k39)).sz = 1 from rfl, Nat.mul_one] at hv204_0
                      replace hv204_0 := Option.some.inj (hv204_0.symm.trans hx204_0)
                      injection hv204_0 with hva_ hvn_ hvc_
                      rw [hva_] at ge204_0
                      rw [hvc_] at ul204_0
                      have HL204_0 := Aside0.mk (show Kd.V k39 39 _ w.heap.size _ _ (rd_L6 t201 x17_2) from Kd.V_mk ul204_0 ge204_0)
                      clear hva_ hvn_ hvc_ ge204_0 ul204_0
                      clear hcc204 hce204
                      have HR204_0 := Aside0.mk hi204_0
                      have HC204_0 := Aside0.mk hl204_0
                      clear hi204_0 hl204_0
                      replace p204 := eq_true p204
                      replace q204 := eq_true q204
                      go_wp2_with (first | ((with_reducible refine gate_callee (f := 29) rfl ?_); refine goesL_ (some 23) rfl rfl Tryd.func29 (by kernel_rfl) rfl #[.slice A204_0 (rd_L6 t201 x17_2).length c204_0] rfl (by (try simp only [List.map_toArray, List.map_cons, List.map_nil]); first | done | rfl | (simp only [List.length_drop, List.length_take]; rfl)) ?_; (with_reducible refine (ih k2 (by have := HK1.out; have := HK2.out; omega) _ _ (rd_L6 t201 x17_2) t205 _ ?side1 ?side2 A15.out).mono ?_); (case side1 => repeat (first | exact (by repeat (first | (with_reducible exact HR204_0.out) | (with_reducible refine Kd.C_alloc ?_ _) | (with_reducible refine Kd.C_drewN ?_ _) | (with_reducible refine Kd.C_drew ?_) | exact HR204_0.out)) | (with_reducible refine Kd.C_alloc ?_ _) | (with_reducible refine Kd.C_drewN ?_ _) | (with_reducible refine Kd.C_drew ?_))); (case side2 => exact HC204_0.out); rintro e w17 ⟨rfl, hb⟩; refine ⟨_, rfl, ?_⟩; have n0_ := Aside0.mk (Kd.N_below (by (with_reducible repeat (first | apply Kd.N_alloc | apply Kd.N_drewN | apply Kd.N_drew)); exact HO_15.out) hb); have n1_ := Aside0.mk (Kd.V_below (by (with_reducible repeat (first | apply Kd.V_alloc | apply Kd.V_drewN | apply Kd.V_drew)); exact HL204_0.out) hb); have n2_ := Aside0.mk (blk_below (g := gb200) (o := .cells #[.int .i64 ((rd_T39 l0 x10_1).f0), .int .i64 ((rd_T39 l0 x10_1).f1), .string ((rd_T39 l0 x10_1).f2), .string ((rd_T39 l0 x10_1).f3), .bool ((rd_T39 l0 x10_1).f4), .bool ((rd_T39 l0 x10_1).f5), .slice A199_6 ((rd_T39 l0 x10_1).f6).length c199_6, .slice A199_7 ((rd_T39 l0 x10_1).f7).length c199_7] 39 (0, 0)) (by (with_reducible repeat (first | refine blk_drewN ?_ _ | refine blk_drew ?_ | refine blk_alloc ?_ _)); exact BK200.out) hb); have n3_ := Aside0.mk (Kd.C_below (by repeat (first | (with_reducible exact HR204_0.out) | (with_reducible refine Kd.C_alloc ?_ _) | (with_reducible refine Kd.C_drewN ?_ _) | (with_reducible refine Kd.C_drew ?_) | exact HR204_0.out)) hb); have n4_ := Aside0.mk (below_step (by repeat (first | (with_reducible first | exact HB.out | apply below_alloc | apply pw_below_drewN | apply below_drew1 | refine below_set ?_ GE200.out) | exact HB.out)) hb); clear HO_15; clear HL204_0; clear BK200; clear HR204_0; clear HB; have HO_15 := n0_; have HL204_0 := n1_; have BK200 := n2_; have HR204_0 := n3_; have HB := n4_; clear n0_ n1_ n2_ n3_ n4_; (try clear hb); (try clear hb2); (try clear hk); (try clear hi)))
                      go_roundg k2
                      case measure => have := HK1.out; have := HK2.out; omega
                      case rel => exact ⟨(ji16), (wrap64 (x17_2 + 1)), (by first | rfl | (simp; done) | (simp only [← hji16] <;> (first | rfl | simp)) | (simp [*]; done)), (by first | rfl | (simp; done) | (simp [*]; done)), H', ⟨by have := HK1.out; have := HK2.out; omega⟩, ⟨by (with_reducible repeat (first | apply Kd.N_alloc | apply Kd.N_drewN | apply Kd.N_drew)); exact HO_15.out⟩, ⟨by (with_reducible repeat (first | refine blk_drewN ?_ _ | refine blk_drew ?_ | refine blk_alloc ?_ _)); exact BK200.out⟩, ⟨by repeat (first | (with_reducible first | exact HB.out | apply below_alloc | apply pw_below_drewN | apply below_drew1 | refine below_set ?_ GE200.out) | exact HB.out)⟩⟩
                    · rw [if_neg c14] at H
                      exact absurd H (by simp)
                  · rw [if_neg c13] at H
                    exact absurd H (by simp)
                · rw [if_neg c12] at H
                  have c12b0 : decide (x17_2 < (t201.length : Int)) = false := decide_eq_false c12
                  clear c12
                  have H' := Aside0.mk H
                  clear H
                  go_wp2
                  go_roundg k2
                  case measure => have := HK1.out; have := HK2.out; omega
                  case rel => exact ⟨(x3_2), (wrap64 (x10_1 + 1)), (by first | rfl | (simp; done) | (simp [*]; done)), (by first | rfl | (simp; done) | (simp [*]; done)), H', ⟨by have := HK1.out; have := HK2.out; omega⟩, ⟨by repeat (first | (with_reducible first | exact HB.out | apply below_alloc | apply pw_below_drewN | apply below_drew1 | refine below_set ?_ GE200.out) | exact HB.out)⟩⟩
          · rw [if_neg c4] at H
            exact absurd H (by simp)
        · rw [if_neg c3] at H
          exact absurd H (by simp)
      · rw [if_neg c2] at H
        have c2b0 : decide (x10_1 < (l0.length : Int)) = false := decide_eq_false c2
        clear c2
        obtain rfl := Option.some.inj H
        go_wp2
        go_ret
        exact ⟨by first | rfl | (simp [errW_none, errW_some] <;> rfl) | (simp [*, errW_none, errW_some] <;> rfl), by repeat (first | (with_reducible first | exact HB.out | apply below_alloc | apply pw_below_drewN | apply below_drew1) | exact HB.out)⟩
mutual
def tmplpiperef12_Nest.l0 : Nat → List (S39) → Int → Int → Option (Int)
  | 0, _, _, _ => none
  | k + 1, x0, x3, x4 => if x4 < (x0.length : Int) then (if 0 ≤ x4 then ((tmplpiperef12_block.f ((rd_T39 x0 x4).f0)).bind fun t207 => (if t207 = true then ((tmplpiperef12_Nest.f k ((rd_T39 x0 x4).f6)).bind fun t209 => (if ((rd_T39 x0 x4).f0) = 2 then ((tmplpiperef12_Nest.f k ((rd_T39 x0 x4).f7)).bind fun t212 => (if (mx (wrap64 (1 + t209)) (wrap64 (1 + t212))) > x3 then (tmplpiperef12_Nest.l0 k x0 (mx (wrap64 (1 + t209)) (wrap64 (1 + t212))) (wrap64 (x4 + 1))) else (tmplpiperef12_Nest.l0 k x0 x3 (wrap64 (x4 + 1))))) else (if (wrap64 (1 + t209)) > x3 then (tmplpiperef12_Nest.l0 k x0 (wrap64 (1 + t209)) (wrap64 (x4 + 1))) else (tmplpiperef12_Nest.l0 k x0 x3 (wrap64 (x4 + 1)))))) else (tmplpiperef12_Nest.l0 k x0 x3 (wrap64 (x4 + 1))))) else (none)) else (some x3)
def tmplpiperef12_Nest.f : Nat → List (S39) → Option (Int)
  | 0, _ => none
  | k + 1, l0 => tmplpiperef12_Nest.l0 k l0 0 0
end
set_option maxHeartbeats 8000000 in
set_option maxRecDepth 100000 in
theorem tmplpiperef12_Nest.calls (k : Nat) : ∀ (A0 : Option Addr) (c0 : Nat) (l0 : List (S39)) (r : Int) (w : World) (hr0 : Kd.C k39 w A0 l0.length l0) (hc0 : l0.length ≤ c0) (h : tmplpiperef12_Nest.f k l0 = some r),
    Calls Tryd.prog 30 #[.slice A0 l0.length c0] w fun e w' => e = .returned (.int .i64 r) ∧ Below w.heap.size w w' := by
  induction k using Nat.strongRecOn with
  | _ k ih =>
  intro A0 c0 l0 r w hr0 hc0 h
  cases k with
  | zero => exact absurd h (by simp [tmplpiperef12_Nest.f])
  | succ k =>
  simp only [tmplpiperef12_Nest.f] at h
  have HR0 := Aside0.mk hr0
  have HC0 := Aside0.mk hc0
  clear hr0 hc0
  have HB := Aside0.mk (Below.refl w.heap.size w)
  have H : (tmplpiperef12_Nest.l0 k l0 0 0) = some r := h
  clear h
  have H' := Aside0.mk H
  clear H
  go_enter Tryd.func30, Tryd.ntmps30
  go_wp2
  go_loopg [3, 4] k (fun kq v3 v4 w' => ∃ (x3_1 : Int) (x4_1 : Int), v3 = .int .i64 x3_1 ∧ v4 = .int .i64 x4_1 ∧ Aside0 (tmplpiperef12_Nest.l0 kq l0 x3_1 x4_1 = some r) ∧ Aside0 (kq ≤ k) ∧ Aside0 (Below w.heap.size w w'))
  case atStart => exact ⟨(0), (0), (by first | rfl | (simp; done) | (simp [*]; done)), (by first | rfl | (simp; done) | (simp [*]; done)), H', ⟨Nat.le_refl _⟩, ⟨by repeat (first | (with_reducible first | exact HB.out | apply below_alloc | apply pw_below_drewN | apply below_drew1) | exact HB.out)⟩⟩
  case round =>
    clear H'
    obtain ⟨x3_1, x4_1, rfl, rfl, HA, HK1, HB⟩ := hrel
    cases gk with
    | zero => exact absurd HA.out (by simp [tmplpiperef12_Nest.l0])
    | succ k1 =>
      have H := HA.out
      clear HA
      simp only [tmplpiperef12_Nest.l0] at H
      by_cases c2 : x4_1 < (l0.length : Int)
      · rw [if_pos c2] at H
        have c2b0 : decide (x4_1 < (l0.length : Int)) = true := decide_eq_true c2
        clear c2
        by_cases c3 : 0 ≤ x4_1
        · rw [if_pos c3] at H
          have c3b0 : decide (0 ≤ x4_1) = true := decide_eq_true c3
          clear c3
          replace H := Option.bind_eq_some_iff.mp H
          obtain ⟨t207, A40, H⟩ := H
          replace H : (if t207 = true then ((tmplpiperef12_Nest.f k1 ((rd_T39 l0 x4_1).f6)).bind fun t209 => (if ((rd_T39 l0 x4_1).f0) = 2 then ((tmplpiperef12_Nest.f k1 ((rd_T39 l0 x4_1).f7)).bind fun t212 => (if (mx (wrap64 (1 + t209)) (wrap64 (1 + t212))) > x3_1 then (tmplpiperef12_Nest.l0 k1 l0 (mx (wrap64 (1 + t209)) (wrap64 (1 + t212))) (wrap64 (x4_1 + 1))) else (tmplpiperef12_Nest.l0 k1 l0 x3_1 (wrap64 (x4_1 + 1))))) else (if (wrap64 (1 + t209)) > x3_1 then (tmplpiperef12_Nest.l0 k1 l0 (wrap64 (1 + t209)) (wrap64 (x4_1 + 1))) else (tmplpiperef12_Nest.l0 k1 l0 x3_1 (wrap64 (x4_1 + 1)))))) else (tmplpiperef12_Nest.l0 k1 l0 x3_1 (wrap64 (x4_1 + 1)))) = some r := H
          have A4 := Aside0.mk A40
          clear A40
          by_cases c5 : t207 = true
          · subst c5
            have H1 : ((tmplpiperef12_Nest.f k1 ((rd_T39 l0 x4_1).f6)).bind fun t209 => (if ((rd_T39 l0 x4_1).f0) = 2 then ((tmplpiperef12_Nest.f k1 ((rd_T39 l0 x4_1).f7)).bind fun t212 => (if (mx (wrap64 (1 + t209)) (wrap64 (1 + t212))) > x3_1 then (tmplpiperef12_Nest.l0 k1 l0 (mx (wrap64 (1 + t209)) (wrap64 (1 + t212))) (wrap64 (x4_1 + 1))) else (tmplpiperef12_Nest.l0 k1 l0 x3_1 (wrap64 (x4_1 + 1))))) else (if (wrap64 (1 + t209)) > x3_1 then (tmplpiperef12_Nest.l0 k1 l0 (wrap64 (1 + t209)) (wrap64 (x4_1 + 1))) else (tmplpiperef12_Nest.l0 k1 l0 x3_1 (wrap64 (x4_1 + 1)))))) = some r := by rw [if_pos rfl] at H; exact H
            clear H
            have H := H1
            clear H1
            replace H := Option.bind_eq_some_iff.mp H
            obtain ⟨t209, A60, H⟩ := H
            replace H : (if ((rd_T39 l0 x4_1).f0) = 2 then ((tmplpiperef12_Nest.f k1 ((rd_T39 l0 x4_1).f7)).bind fun t212 => (if (mx (wrap64 (1 + t209)) (wrap64 (1 + t212))) > x3_1 then (tmplpiperef12_Nest.l0 k1 l0 (mx (wrap64 (1 + t209)) (wrap64 (1 + t212))) (wrap64 (x4_1 + 1))) else (tmplpiperef12_Nest.l0 k1 l0 x3_1 (wrap64 (x4_1 + 1))))) else (if (wrap64 (1 + t209)) > x3_1 then (tmplpiperef12_Nest.l0 k1 l0 (wrap64 (1 + t209)) (wrap64 (x4_1 + 1))) else (tmplpiperef12_Nest.l0 k1 l0 x3_1 (wrap64 (x4_1 + 1))))) = some r := H
            have A6 := Aside0.mk A60
            clear A60
            by_cases c7 : ((rd_T39 l0 x4_1).f0) = 2
            · rw [if_pos c7] at H
              have c7b0 : (((rd_T39 l0 x4_1).f0) == 2) = true := beq_iff_eq.mpr c7
              have c7b1 : (((rd_T39 l0 x4_1).f0) != 2) = false := bne_eq_false_iff_eq.mpr c7
              clear c7
              replace H := Option.bind_eq_some_iff.mp H
              obtain ⟨t212, A80, H⟩ := H
              replace H : (if (mx (wrap64 (1 + t209)) (wrap64 (1 + t212))) > x3_1 then (tmplpiperef12_Nest.l0 k1 l0 (mx (wrap64 (1 + t209)) (wrap64 (1 + t212))) (wrap64 (x4_1 + 1))) else (tmplpiperef12_Nest.l0 k1 l0 x3_1 (wrap64 (x4_1 + 1)))) = some r := H
              have A8 := Aside0.mk A80
              clear A80
              obtain ⟨ji9, hji9⟩ : ∃ j_ : Int, (mx (wrap64 (1 + t209)) (wrap64 (1 + t212))) = j_ := ⟨_, rfl⟩
              replace H : (if (ji9) > x3_1 then (tmplpiperef12_Nest.l0 k1 l0 ji9 (wrap64 (x4_1 + 1))) else (tmplpiperef12_Nest.l0 k1 l0 x3_1 (wrap64 (x4_1 + 1)))) = some r := by first | (rw [hji9] at H; exact H) | (simp only [hji9] at H ⊢; exact H)
              (try rw [hji9] at A4)
              (try rw [hji9] at A6)
              (try rw [hji9] at A8)
              have hji9_ : (if (wrap64 (1 + t209)) < (wrap64 (1 + t212)) then (wrap64 (1 + t212)) else (wrap64 (1 + t209))) = ji9 := hji9
              by_cases c10 : (ji9) > x3_1
              · rw [if_pos c10] at H
                have c10b0 : decide (x3_1 < (ji9)) = true := decide_eq_true c10
                clear c10
                have H' := Aside0.mk H
                clear H
                have p206 : 0 ≤ (x4_1 : Int) := of_decide_eq_true (by first | (with_reducible assumption) | assumption)
                have q206 : x4_1 < (l0.length : Int) := of_decide_eq_true (by first | (with_reducible assumption) | assumption)
                obtain ⟨ad206, A206_6, c206_6, A206_7, c206_7, e206, hx206_0, hx206_1, hx206_2, hx206_3, hx206_4, hx206_5, hx206_6, hx206_7, hl206_6, hi206_6, hl206_7, hi206_7⟩ := at_T39 HR0.out x4_1 p206 q206
                cases e206
                replace hx206_0 := (HB.out.cell (World.block_lt_of_cell? w _ hx206_0)).trans hx206_0
                replace hx206_1 := (HB.out.cell (World.block_lt_of_cell? w _ hx206_1)).trans hx206_1
                replace hx206_2 := (HB.out.cell (World.block_lt_of_cell? w _ hx206_2)).trans hx206_2
                replace hx206_3 := (HB.out.cell (World.block_lt_of_cell? w _ hx206_3)).trans hx206_3
                replace hx206_4 := (HB.out.cell (World.block_lt_of_cell? w _ hx206_4)).trans hx206_4
                replace hx206_5 := (HB.out.cell (World.block_lt_of_cell? w _ hx206_5)).trans hx206_5
                replace hx206_6 := (HB.out.cell (World.block_lt_of_cell? w _ hx206_6)).trans hx206_6
                replace hx206_7 := (HB.out.cell (World.block_lt_of_cell? w _ hx206_7)).trans hx206_7
                have HR206_6 := Aside0.mk hi206_6
                have HC206_6 := Aside0.mk hl206_6
                clear hi206_6 hl206_6
                have HR206_7 := Aside0.mk hi206_7
                have HC206_7 := Aside0.mk hl206_7
                clear hi206_7 hl206_7
                replace p206 := eq_true p206
                replace q206 := eq_true q206
                go_wp2_with (first | ((with_reducible refine gate_callee (f := 53) rfl ?_); refine goesL_ (some 17) rfl rfl Tryd.func53 (by kernel_rfl) rfl #[.int .i64 ((rd_T39 l0 x4_1).f0)] rfl (by (try simp only [List.map_toArray, List.map_cons, List.map_nil]); first | done | rfl | (simp only [List.length_drop, List.length_take]; rfl)) ?_; (with_reducible refine (tmplpiperef12_block.calls ((rd_T39 l0 x4_1).f0) true _ A4.out).mono ?_); rintro e w' ⟨rfl, ⟨nd, rfl⟩⟩; refine ⟨_, rfl, ?_⟩; have p208 : 0 ≤ (x4_1 : Int) := of_decide_eq_true (by first | (with_reducible assumption) | assumption); have q208 : x4_1 < (l0.length : Int) := of_decide_eq_true (by first | (with_reducible assumption) | assumption); obtain ⟨ad208, A208_6, c208_6, A208_7, c208_7, e208, hx208_0, hx208_1, hx208_2, hx208_3, hx208_4, hx208_5, hx208_6, hx208_7, hl208_6, hi208_6, hl208_7, hi208_7⟩ := at_T39 HR0.out x4_1 p208 q208; obtain rfl : ad206 = ad208 := (by injection e208); replace hx208_0 := (HB.out.cell (World.block_lt_of_cell? w _ hx208_0)).trans hx208_0; replace hx208_1 := (HB.out.cell (World.block_lt_of_cell? w _ hx208_1)).trans hx208_1; replace hx208_2 := (HB.out.cell (World.block_lt_of_cell? w _ hx208_2)).trans hx208_2; replace hx208_3 := (HB.out.cell (World.block_lt_of_cell? w _ hx208_3)).trans hx208_3; replace hx208_4 := (HB.out.cell (World.block_lt_of_cell? w _ hx208_4)).trans hx208_4; replace hx208_5 := (HB.out.cell (World.block_lt_of_cell? w _ hx208_5)).trans hx208_5; replace hx208_6 := (HB.out.cell (World.block_lt_of_cell? w _ hx208_6)).trans hx208_6; replace hx208_7 := (HB.out.cell (World.block_lt_of_cell? w _ hx208_7)).trans hx208_7; have HR208_6 := Aside0.mk hi208_6; have HC208_6 := Aside0.mk hl208_6; clear hi208_6 hl208_6; have HR208_7 := Aside0.mk hi208_7; have HC208_7 := Aside0.mk hl208_7; clear hi208_7 hl208_7; replace p208 := eq_true p208; replace q208 := eq_true q208; have ea_ := Option.some.inj (hx206_6.symm.trans hx208_6); injection ea_ with ea_ en_ ec_; subst ea_; subst ec_; clear en_; have ea_ := Option.some.inj (hx206_7.symm.trans hx208_7); injection ea_ with ea_ en_ ec_; subst ea_; subst ec_; clear en_) | ((with_reducible refine gate_callee (f := 30) rfl ?_); refine goesL_ (some 24) rfl rfl Tryd.func30 (by kernel_rfl) rfl #[.slice A206_6 ((rd_T39 l0 x4_1).f6).length c206_6] rfl (by (try simp only [List.map_toArray, List.map_cons, List.map_nil]); first | done | rfl | (simp only [List.length_drop, List.length_take]; rfl)) ?_; (with_reducible refine (ih k1 (by have := HK1.out; omega) _ _ ((rd_T39 l0 x4_1).f6) t209 _ ?side1 ?side2 A6.out).mono ?_); (case side1 => repeat (first | exact (Kd.C_below HR208_6.out (by repeat (first | (with_reducible first | exact HB.out | apply below_alloc | apply pw_below_drewN | apply below_drew1) | exact HB.out))) | (with_reducible refine Kd.C_alloc ?_ _) | (with_reducible refine Kd.C_drewN ?_ _) | (with_reducible refine Kd.C_drew ?_))); (case side2 => exact HC208_6.out); rintro e w11 ⟨rfl, hb⟩; refine ⟨_, rfl, ?_⟩; have n0_ := Aside0.mk (below_step (by repeat (first | (with_reducible first | exact HB.out | apply below_alloc | apply pw_below_drewN | apply below_drew1) | exact HB.out)) hb); clear HB; have HB := n0_; clear n0_; (try clear hb); (try clear hb2); (try clear hk); (try clear hi); have p210 : 0 ≤ (x4_1 : Int) := of_decide_eq_true (by first | (with_reducible assumption) | assumption); have q210 : x4_1 < (l0.length : Int) := of_decide_eq_true (by first | (with_reducible assumption) | assumption); obtain ⟨ad210, A210_6, c210_6, A210_7, c210_7, e210, hx210_0, hx210_1, hx210_2, hx210_3, hx210_4, hx210_5, hx210_6, hx210_7, hl210_6, hi210_6, hl210_7, hi210_7⟩ := at_T39 HR0.out x4_1 p210 q210; obtain rfl : ad206 = ad210 := (by injection e210); replace hx210_0 := (HB.out.cell (World.block_lt_of_cell? w _ hx210_0)).trans hx210_0; replace hx210_1 := (HB.out.cell (World.block_lt_of_cell? w _ hx210_1)).trans hx210_1; replace hx210_2 := (HB.out.cell (World.block_lt_of_cell? w _ hx210_2)).trans hx210_2; replace hx210_3 := (HB.out.cell (World.block_lt_of_cell? w _ hx210_3)).trans hx210_3; replace hx210_4 := (HB.out.cell (World.block_lt_of_cell? w _ hx210_4)).trans hx210_4; replace hx210_5 := (HB.out.cell (World.block_lt_of_cell? w _ hx210_5)).trans hx210_5; replace hx210_6 := (HB.out.cell (World.block_lt_of_cell? w _ hx210_6)).trans hx210_6; replace hx210_7 := (HB.out.cell (World.block_lt_of_cell? w _ hx210_7)).trans hx210_7; have HR210_6 := Aside0.mk hi210_6; have HC210_6 := Aside0.mk hl210_6; clear hi210_6 hl210_6; have HR210_7 := Aside0.mk hi210_7; have HC210_7 := Aside0.mk hl210_7; clear hi210_7 hl210_7; replace p210 := eq_true p210; replace q210 := eq_true q210; have p211 : 0 ≤ (x4_1 : Int) := of_decide_eq_true (by first | (with_reducible assumption) | assumption); have q211 : x4_1 < (l0.length : Int) := of_decide_eq_true (by first | (with_reducible assumption) | assumption); obtain ⟨ad211, A211_6, c211_6, A211_7, c211_7, e211, hx211_0, hx211_1, hx211_2, hx211_3, hx211_4, hx211_5, hx211_6, hx211_7, hl211_6, hi211_6, hl211_7, hi211_7⟩ := at_T39 HR0.out x4_1 p211 q211; obtain rfl : ad206 = ad211 := (by injection e211); replace hx211_0 := (HB.out.cell (World.block_lt_of_cell? w _ hx211_0)).trans hx211_0; replace hx211_1 := (HB.out.cell (World.block_lt_of_cell? w _ hx211_1)).trans hx211_1; replace hx211_2 := (HB.out.cell (World.block_lt_of_cell? w _ hx211_2)).trans hx211_2; replace hx211_3 := (HB.out.cell (World.block_lt_of_cell? w _ hx211_3)).trans hx211_3; replace hx211_4 := (HB.out.cell (World.block_lt_of_cell? w _ hx211_4)).trans hx211_4; replace hx211_5 := (HB.out.cell (World.block_lt_of_cell? w _ hx211_5)).trans hx211_5; replace hx211_6 := (HB.out.cell (World.block_lt_of_cell? w _ hx211_6)).trans hx211_6; replace hx211_7 := (HB.out.cell (World.block_lt_of_cell? w _ hx211_7)).trans hx211_7; have HR211_6 := Aside0.mk hi211_6; have HC211_6 := Aside0.mk hl211_6; clear hi211_6 hl211_6; have HR211_7 := Aside0.mk hi211_7; have HC211_7 := Aside0.mk hl211_7; clear hi211_7 hl211_7; replace p211 := eq_true p211; replace q211 := eq_true q211; have ea_ := Option.some.inj (hx210_6.symm.trans hx211_6); injection ea_ with ea_ en_ ec_; subst ea_; subst ec_; clear en_; have ea_ := Option.some.inj (hx210_7.symm.trans hx211_7); injection ea_ with ea_ en_ ec_; subst ea_; subst ec_; clear en_) | ((with_reducible refine gate_callee (f := 30) rfl ?_); refine goesL_ (some 38) rfl rfl Tryd.func30 (by kernel_rfl) rfl #[.slice A210_7 ((rd_T39 l0 x4_1).f7).length c210_7] rfl (by (try simp only [List.map_toArray, List.map_cons, List.map_nil]); first | done | rfl | (simp only [List.length_drop, List.length_take]; rfl)) ?_; (with_reducible refine (ih k1 (by have := HK1.out; omega) _ _ ((rd_T39 l0 x4_1).f7) t212 _ ?side1 ?side2 A8.out).mono ?_); (case side1 => repeat (first | exact (Kd.C_below HR211_7.out HB.out) | (with_reducible refine Kd.C_alloc ?_ _) | (with_reducible refine Kd.C_drewN ?_ _) | (with_reducible refine Kd.C_drew ?_))); (case side2 => exact HC211_7.out); rintro e w12 ⟨rfl, hb⟩; refine ⟨_, rfl, ?_⟩; have n0_ := Aside0.mk (below_step (by repeat (first | (with_reducible first | exact HB.out | apply below_alloc | apply pw_below_drewN | apply below_drew1) | exact HB.out)) hb); clear HB; have HB := n0_; clear n0_; (try clear hb); (try clear hb2); (try clear hk); (try clear hi)))
                go_roundg k1
                case measure => have := HK1.out; omega
                case rel => exact ⟨(ji9), (wrap64 (x4_1 + 1)), (by first | rfl | (simp; done) | (simp only [← hji9] <;> (first | rfl | simp)) | (simp [*]; done)), (by first | rfl | (simp; done) | (simp [*]; done)), H', ⟨by have := HK1.out; omega⟩, ⟨by repeat (first | (with_reducible first | exact HB.out | apply below_alloc | apply pw_below_drewN | apply below_drew1) | exact HB.out)⟩⟩
              · rw [if_neg c10] at H
                have c10b0 : decide (x3_1 < (ji9)) = false := decide_eq_false c10
                clear c10
                have H' := Aside0.mk H
                clear H
                have p206 : 0 ≤ (x4_1 : Int) := of_decide_eq_true (by first | (with_reducible assumption) | assumption)
                have q206 : x4_1 < (l0.length : Int) := of_decide_eq_true (by first | (with_reducible assumption) | assumption)
                obtain ⟨ad206, A206_6, c206_6, A206_7, c206_7, e206, hx206_0, hx206_1, hx206_2, hx206_3, hx206_4, hx206_5, hx206_6, hx206_7, hl206_6, hi206_6, hl206_7, hi206_7⟩ := at_T39 HR0.out x4_1 p206 q206
                cases e206
                replace hx206_0 := (HB.out.cell (World.block_lt_of_cell? w _ hx206_0)).trans hx206_0
                replace hx206_1 := (HB.out.cell (World.block_lt_of_cell? w _ hx206_1)).trans hx206_1
                replace hx206_2 := (HB.out.cell (World.block_lt_of_cell? w _ hx206_2)).trans hx206_2
                replace hx206_3 := (HB.out.cell (World.block_lt_of_cell? w _ hx206_3)).trans hx206_3
                replace hx206_4 := (HB.out.cell (World.block_lt_of_cell? w _ hx206_4)).trans hx206_4
                replace hx206_5 := (HB.out.cell (World.block_lt_of_cell? w _ hx206_5)).trans hx206_5
                replace hx206_6 := (HB.out.cell (World.block_lt_of_cell? w _ hx206_6)).trans hx206_6
                replace hx206_7 := (HB.out.cell (World.block_lt_of_cell? w _ hx206_7)).trans hx206_7
                have HR206_6 := Aside0.mk hi206_6
                have HC206_6 := Aside0.mk hl206_6
                clear hi206_6 hl206_6
                have HR206_7 := Aside0.mk hi206_7
                have HC206_7 := Aside0.mk hl206_7
                clear hi206_7 hl206_7
                replace p206 := eq_true p206
                replace q206 := eq_true q206
                go_wp2_with (first | ((with_reducible refine gate_callee (f := 53) rfl ?_); refine goesL_ (some 17) rfl rfl Tryd.func53 (by kernel_rfl) rfl #[.int .i64 ((rd_T39 l0 x4_1).f0)] rfl (by (try simp only [List.map_toArray, List.map_cons, List.map_nil]); first | done | rfl | (simp only [List.length_drop, List.length_take]; rfl)) ?_; (with_reducible refine (tmplpiperef12_block.calls ((rd_T39 l0 x4_1).f0) true _ A4.out).mono ?_); rintro e w' ⟨rfl, ⟨nd, rfl⟩⟩; refine ⟨_, rfl, ?_⟩; have p208 : 0 ≤ (x4_1 : Int) := of_decide_eq_true (by first | (with_reducible assumption) | assumption); have q208 : x4_1 < (l0.length : Int) := of_decide_eq_true (by first | (with_reducible assumption) | assumption); obtain ⟨ad208, A208_6, c208_6, A208_7, c208_7, e208, hx208_0, hx208_1, hx208_2, hx208_3, hx208_4, hx208_5, hx208_6, hx208_7, hl208_6, hi208_6, hl208_7, hi208_7⟩ := at_T39 HR0.out x4_1 p208 q208; obtain rfl : ad206 = ad208 := (by injection e208); replace hx208_0 := (HB.out.cell (World.block_lt_of_cell? w _ hx208_0)).trans hx208_0; replace hx208_1 := (HB.out.cell (World.block_lt_of_cell? w _ hx208_1)).trans hx208_1; replace hx208_2 := (HB.out.cell (World.block_lt_of_cell? w _ hx208_2)).trans hx208_2; replace hx208_3 := (HB.out.cell (World.block_lt_of_cell? w _ hx208_3)).trans hx208_3; replace hx208_4 := (HB.out.cell (World.block_lt_of_cell? w _ hx208_4)).trans hx208_4; replace hx208_5 := (HB.out.cell (World.block_lt_of_cell? w _ hx208_5)).trans hx208_5; replace hx208_6 := (HB.out.cell (World.block_lt_of_cell? w _ hx208_6)).trans hx208_6; replace hx208_7 := (HB.out.cell (World.block_lt_of_cell? w _ hx208_7)).trans hx208_7; have HR208_6 := Aside0.mk hi208_6; have HC208_6 := Aside0.mk hl208_6; clear hi208_6 hl208_6; have HR208_7 := Aside0.mk hi208_7; have HC208_7 := Aside0.mk hl208_7; clear hi208_7 hl208_7; replace p208 := eq_true p208; replace q208 := eq_true q208; have ea_ := Option.some.inj (hx206_6.symm.trans hx208_6); injection ea_ with ea_ en_ ec_; subst ea_; subst ec_; clear en_; have ea_ := Option.some.inj (hx206_7.symm.trans hx208_7); injection ea_ with ea_ en_ ec_; subst ea_; subst ec_; clear en_) | ((with_reducible refine gate_callee (f := 30) rfl ?_); refine goesL_ (some 24) rfl rfl Tryd.func30 (by kernel_rfl) rfl #[.slice A206_6 ((rd_T39 l0 x4_1).f6).length c206_6] rfl (by (try simp only [List.map_toArray, List.map_cons, List.map_nil]); first | done | rfl | (simp only [List.length_drop, List.length_take]; rfl)) ?_; (with_reducible refine (ih k1 (by have := HK1.out; omega) _ _ ((rd_T39 l0 x4_1).f6) t209 _ ?side1 ?side2 A6.out).mono ?_); (case side1 => repeat (first | exact (Kd.C_below HR208_6.out (by repeat (first | (with_reducible first | exact HB.out | apply below_alloc | apply pw_below_drewN | apply below_drew1) | exact HB.out))) | (with_reducible refine Kd.C_alloc ?_ _) | (with_reducible refine Kd.C_drewN ?_ _) | (with_reducible refine Kd.C_drew ?_))); (case side2 => exact HC208_6.out); rintro e w13 ⟨rfl, hb⟩; refine ⟨_, rfl, ?_⟩; have n0_ := Aside0.mk (below_step (by repeat (first | (with_reducible first | exact HB.out | apply below_alloc | apply pw_below_drewN | apply below_drew1) | exact HB.out)) hb); clear HB; have HB := n0_; clear n0_; (try clear hb); (try clear hb2); (try clear hk); (try clear hi); have p210 : 0 ≤ (x4_1 : Int) := of_decide_eq_true (by first | (with_reducible assumption) | assumption); have q210 : x4_1 < (l0.length : Int) := of_decide_eq_true (by first | (with_reducible assumption) | assumption); obtain ⟨ad210, A210_6, c210_6, A210_7, c210_7, e210, hx210_0, hx210_1, hx210_2, hx210_3, hx210_4, hx210_5, hx210_6, hx210_7, hl210_6, hi210_6, hl210_7, hi210_7⟩ := at_T39 HR0.out x4_1 p210 q210; obtain rfl : ad206 = ad210 := (by injection e210); replace hx210_0 := (HB.out.cell (World.block_lt_of_cell? w _ hx210_0)).trans hx210_0; replace hx210_1 := (HB.out.cell (World.block_lt_of_cell? w _ hx210_1)).trans hx210_1; replace hx210_2 := (HB.out.cell (World.block_lt_of_cell? w _ hx210_2)).trans hx210_2; replace hx210_3 := (HB.out.cell (World.block_lt_of_cell? w _ hx210_3)).trans hx210_3; replace hx210_4 := (HB.out.cell (World.block_lt_of_cell? w _ hx210_4)).trans hx210_4; replace hx210_5 := (HB.out.cell (World.block_lt_of_cell? w _ hx210_5)).trans hx210_5; replace hx210_6 := (HB.out.cell (World.block_lt_of_cell? w _ hx210_6)).trans hx210_6; replace hx210_7 := (HB.out.cell (World.block_lt_of_cell? w _ hx210_7)).trans hx210_7; have HR210_6 := Aside0.mk hi210_6; have HC210_6 := Aside0.mk hl210_6; clear hi210_6 hl210_6; have HR210_7 := Aside0.mk hi210_7; have HC210_7 := Aside0.mk hl210_7; clear hi210_7 hl210_7; replace p210 := eq_true p210; replace q210 := eq_true q210; have p211 : 0 ≤ (x4_1 : Int) := of_decide_eq_true (by first | (with_reducible assumption) | assumption); have q211 : x4_1 < (l0.length : Int) := of_decide_eq_true (by first | (with_reducible assumption) | assumption); obtain ⟨ad211, A211_6, c211_6, A211_7, c211_7, e211, hx211_0, hx211_1, hx211_2, hx211_3, hx211_4, hx211_5, hx211_6, hx211_7, hl211_6, hi211_6, hl211_7, hi211_7⟩ := at_T39 HR0.out x4_1 p211 q211; obtain rfl : ad206 = ad211 := (by injection e211); replace hx211_0 := (HB.out.cell (World.block_lt_of_cell? w _ hx211_0)).trans hx211_0; replace hx211_1 := (HB.out.cell (World.block_lt_of_cell? w _ hx211_1)).trans hx211_1; replace hx211_2 := (HB.out.cell (World.block_lt_of_cell? w _ hx211_2)).trans hx211_2; replace hx211_3 := (HB.out.cell (World.block_lt_of_cell? w _ hx211_3)).trans hx211_3; replace hx211_4 := (HB.out.cell (World.block_lt_of_cell? w _ hx211_4)).trans hx211_4; replace hx211_5 := (HB.out.cell (World.block_lt_of_cell? w _ hx211_5)).trans hx211_5; replace hx211_6 := (HB.out.cell (World.block_lt_of_cell? w _ hx211_6)).trans hx211_6; replace hx211_7 := (HB.out.cell (World.block_lt_of_cell? w _ hx211_7)).trans hx211_7; have HR211_6 := Aside0.mk hi211_6; have HC211_6 := Aside0.mk hl211_6; clear hi211_6 hl211_6; have HR211_7 := Aside0.mk hi211_7; have HC211_7 := Aside0.mk hl211_7; clear hi211_7 hl211_7; replace p211 := eq_true p211; replace q211 := eq_true q211; have ea_ := Option.some.inj (hx210_6.symm.trans hx211_6); injection ea_ with ea_ en_ ec_; subst ea_; subst ec_; clear en_; have ea_ := Option.some.inj (hx210_7.symm.trans hx211_7); injection ea_ with ea_ en_ ec_; subst ea_; subst ec_; clear en_) | ((with_reducible refine gate_callee (f := 30) rfl ?_); refine goesL_ (some 38) rfl rfl Tryd.func30 (by kernel_rfl) rfl #[.slice A210_7 ((rd_T39 l0 x4_1).f7).length c210_7] rfl (by (try simp only [List.map_toArray, List.map_cons, List.map_nil]); first | done | rfl | (simp only [List.length_drop, List.length_take]; rfl)) ?_; (with_reducible refine (ih k1 (by have := HK1.out; omega) _ _ ((rd_T39 l0 x4_1).f7) t212 _ ?side1 ?side2 A8.out).mono ?_); (case side1 => repeat (first | exact (Kd.C_below HR211_7.out HB.out) | (with_reducible refine Kd.C_alloc ?_ _) | (with_reducible refine Kd.C_drewN ?_ _) | (with_reducible refine Kd.C_drew ?_))); (case side2 => exact HC211_7.out); rintro e w14 ⟨rfl, hb⟩; refine ⟨_, rfl, ?_⟩; have n0_ := Aside0.mk (below_step (by repeat (first | (with_reducible first | exact HB.out | apply below_alloc | apply pw_below_drewN | apply below_drew1) | exact HB.out)) hb); clear HB; have HB := n0_; clear n0_; (try clear hb); (try clear hb2); (try clear hk); (try clear hi)))
                go_roundg k1
                case measure => have := HK1.out; omega
                case rel => exact ⟨(x3_1), (wrap64 (x4_1 + 1)), (by first | rfl | (simp; done) | (simp [*]; done)), (by first | rfl | (simp; done) | (simp [*]; done)), H', ⟨by have := HK1.out; omega⟩, ⟨by repeat (first | (with_reducible first | exact HB.out | apply below_alloc | apply pw_below_drewN | apply below_drew1) | exact HB.out)⟩⟩
            · rw [if_neg c7] at H
              have c7b0 : (((rd_T39 l0 x4_1).f0) == 2) = false := beq_eq_false_iff_ne.mpr c7
              have c7b1 : (((rd_T39 l0 x4_1).f0) != 2) = true := bne_iff_ne.mpr c7
              by_cases c15 : (wrap64 (1 + t209)) > x3_1
              · rw [if_pos c15] at H
                have c15b0 : decide (x3_1 < (wrap64 (1 + t209))) = true := decide_eq_true c15
                clear c15
                have H' := Aside0.mk H
                clear H
                have p206 : 0 ≤ (x4_1 : Int) := of_decide_eq_true (by first | (with_reducible assumption) | assumption)
                have q206 : x4_1 < (l0.length : Int) := of_decide_eq_true (by first | (with_reducible assumption) | assumption)
                obtain ⟨ad206, A206_6, c206_6, A206_7, c206_7, e206, hx206_0, hx206_1, hx206_2, hx206_3, hx206_4, hx206_5, hx206_6, hx206_7, hl206_6, hi206_6, hl206_7, hi206_7⟩ := at_T39 HR0.out x4_1 p206 q206
                cases e206
                replace hx206_0 := (HB.out.cell (World.block_lt_of_cell? w _ hx206_0)).trans hx206_0
                replace hx206_1 := (HB.out.cell (World.block_lt_of_cell? w _ hx206_1)).trans hx206_1
                replace hx206_2 := (HB.out.cell (World.block_lt_of_cell? w _ hx206_2)).trans hx206_2
                replace hx206_3 := (HB.out.cell (World.block_lt_of_cell? w _ hx206_3)).trans hx206_3
                replace hx206_4 := (HB.out.cell (World.block_lt_of_cell? w _ hx206_4)).trans hx206_4
                replace hx206_5 := (HB.out.cell (World.block_lt_of_cell? w _ hx206_5)).trans hx206_5
                replace hx206_6 := (HB.out.cell (World.block_lt_of_cell? w _ hx206_6)).trans hx206_6
                replace hx206_7 := (HB.out.cell (World.block_lt_of_cell? w _ hx206_7)).trans hx206_7
                have HR206_6 := Aside0.mk hi206_6
                have HC206_6 := Aside0.mk hl206_6
                clear hi206_6 hl206_6
                have HR206_7 := Aside0.mk hi206_7
                have HC206_7 := Aside0.mk hl206_7
                clear hi206_7 hl206_7
                replace p206 := eq_true p206
                replace q206 := eq_true q206
                go_wp2_with (first | ((with_reducible refine gate_callee (f := 53) rfl ?_); refine goesL_ (some 17) rfl rfl Tryd.func53 (by kernel_rfl) rfl #[.int .i64 ((rd_T39 l0 x4_1).f0)] rfl (by (try simp only [List.map_toArray, List.map_cons, List.map_nil]); first | done | rfl | (simp only [List.length_drop, List.length_take]; rfl)) ?_; (with_reducible refine (tmplpiperef12_block.calls ((rd_T39 l0 x4_1).f0) true _ A4.out).mono ?_); rintro e w' ⟨rfl, ⟨nd, rfl⟩⟩; refine ⟨_, rfl, ?_⟩; have p208 : 0 ≤ (x4_1 : Int) := of_decide_eq_true (by first | (with_reducible assumption) | assumption); have q208 : x4_1 < (l0.length : Int) := of_decide_eq_true (by first | (with_reducible assumption) | assumption); obtain ⟨ad208, A208_6, c208_6, A208_7, c208_7, e208, hx208_0, hx208_1, hx208_2, hx208_3, hx208_4, hx208_5, hx208_6, hx208_7, hl208_6, hi208_6, hl208_7, hi208_7⟩ := at_T39 HR0.out x4_1 p208 q208; obtain rfl : ad206 = ad208 := (by injection e208); replace hx208_0 := (HB.out.cell (World.block_lt_of_cell? w _ hx208_0)).trans hx208_0; replace hx208_1 := (HB.out.cell (World.block_lt_of_cell? w _ hx208_1)).trans hx208_1; replace hx208_2 := (HB.out.cell (World.block_lt_of_cell? w _ hx208_2)).trans hx208_2; replace hx208_3 := (HB.out.cell (World.block_lt_of_cell? w _ hx208_3)).trans hx208_3; replace hx208_4 := (HB.out.cell (World.block_lt_of_cell? w _ hx208_4)).trans hx208_4; replace hx208_5 := (HB.out.cell (World.block_lt_of_cell? w _ hx208_5)).trans hx208_5; replace hx208_6 := (HB.out.cell (World.block_lt_of_cell? w _ hx208_6)).trans hx208_6; replace hx208_7 := (HB.out.cell (World.block_lt_of_cell? w _ hx208_7)).trans hx208_7; have HR208_6 := Aside0.mk hi208_6; have HC208_6 := Aside0.mk hl208_6; clear hi208_6 hl208_6; have HR208_7 := Aside0.mk hi208_7; have HC208_7 := Aside0.mk hl208_7; clear hi208_7 hl208_7; replace p208 := eq_true p208; replace q208 := eq_true q208; have ea_ := Option.some.inj (hx206_6.symm.trans hx208_6); injection ea_ with ea_ en_ ec_; subst ea_; subst ec_; clear en_; have ea_ := Option.some.inj (hx206_7.symm.trans hx208_7); injection ea_ with ea_ en_ ec_; subst ea_; subst ec_; clear en_) | ((with_reducible refine gate_callee (f := 30) rfl ?_); refine goesL_ (some 24) rfl rfl Tryd.func30 (by kernel_rfl) rfl #[.slice A206_6 ((rd_T39 l0 x4_1).f6).length c206_6] rfl (by (try simp only [List.map_toArray, List.map_cons, List.map_nil]); first | done | rfl | (simp only [List.length_drop, List.length_take]; rfl)) ?_; (with_reducible refine (ih k1 (by have := HK1.out; omega) _ _ ((rd_T39 l0 x4_1).f6) t209 _ ?side1 ?side2 A6.out).mono ?_); (case side1 => repeat (first | exact (Kd.C_below HR208_6.out (by repeat (first | (with_reducible first | exact HB.out | apply below_alloc | apply pw_below_drewN | apply below_drew1) | exact HB.out))) | (with_reducible refine Kd.C_alloc ?_ _) | (with_reducible refine Kd.C_drewN ?_ _) | (with_reducible refine Kd.C_drew ?_))); (case side2 => exact HC208_6.out); rintro e w16 ⟨rfl, hb⟩; refine ⟨_, rfl, ?_⟩; have n0_ := Aside0.mk (below_step (by repeat (first | (with_reducible first | exact HB.out | apply below_alloc | apply pw_below_drewN | apply below_drew1) | exact HB.out)) hb); clear HB; have HB := n0_; clear n0_; (try clear hb); (try clear hb2); (try clear hk); (try clear hi); have p210 : 0 ≤ (x4_1 : Int) := of_decide_eq_true (by first | (with_reducible assumption) | assumption); have q210 : x4_1 < (l0.length : Int) := of_decide_eq_true (by first | (with_reducible assumption) | assumption); obtain ⟨ad210, A210_6, c210_6, A210_7, c210_7, e210, hx210_0, hx210_1, hx210_2, hx210_3, hx210_4, hx210_5, hx210_6, hx210_7, hl210_6, hi210_6, hl210_7, hi210_7⟩ := at_T39 HR0.out x4_1 p210 q210; obtain rfl : ad206 = ad210 := (by injection e210); replace hx210_0 := (HB.out.cell (World.block_lt_of_cell? w _ hx210_0)).trans hx210_0; replace hx210_1 := (HB.out.cell (World.block_lt_of_cell? w _ hx210_1)).trans hx210_1; replace hx210_2 := (HB.out.cell (World.block_lt_of_cell? w _ hx210_2)).trans hx210_2; replace hx210_3 := (HB.out.cell (World.block_lt_of_cell? w _ hx210_3)).trans hx210_3; replace hx210_4 := (HB.out.cell (World.block_lt_of_cell? w _ hx210_4)).trans hx210_4; replace hx210_5 := (HB.out.cell (World.block_lt_of_cell? w _ hx210_5)).trans hx210_5; replace hx210_6 := (HB.out.cell (World.block_lt_of_cell? w _ hx210_6)).trans hx210_6; replace hx210_7 := (HB.out.cell (World.block_lt_of_cell? w _ hx210_7)).trans hx210_7; have HR210_6 := Aside0.mk hi210_6; have HC210_6 := Aside0.mk hl210_6; clear hi210_6 hl210_6; have HR210_7 := Aside0.mk hi210_7; have HC210_7 := Aside0.mk hl210_7; clear hi210_7 hl210_7; replace p210 := eq_true p210; replace q210 := eq_true q210))
                go_roundg k1
                case measure => have := HK1.out; omega
                case rel => exact ⟨(wrap64 (1 + t209)), (wrap64 (x4_1 + 1)), (by first | rfl | (simp; done) | (simp [*]; done)), (by first | rfl | (simp; done) | (simp [*]; done)), H', ⟨by have := HK1.out; omega⟩, ⟨by repeat (first | (with_reducible first | exact HB.out | apply below_alloc | apply pw_below_drewN | apply below_drew1) | exact HB.out)⟩⟩
              · rw [if_neg c15] at H
                have c15b0 : decide (x3_1 < (wrap64 (1 + t209))) = false := decide_eq_false c15
                clear c15
                have H' := Aside0.mk H
                clear H
                have p206 : 0 ≤ (x4_1 : Int) := of_decide_eq_true (by first | (with_reducible assumption) | assumption)
                have q206 : x4_1 < (l0.length : Int) := of_decide_eq_true (by first | (with_reducible assumption) | assumption)
                obtain ⟨ad206, A206_6, c206_6, A206_7, c206_7, e206, hx206_0, hx206_1, hx206_2, hx206_3, hx206_4, hx206_5, hx206_6, hx206_7, hl206_6, hi206_6, hl206_7, hi206_7⟩ := at_T39 HR0.out x4_1 p206 q206
                cases e206
                replace hx206_0 := (HB.out.cell (World.block_lt_of_cell? w _ hx206_0)).trans hx206_0
                replace hx206_1 := (HB.out.cell (World.block_lt_of_cell? w _ hx206_1)).trans hx206_1
                replace hx206_2 := (HB.out.cell (World.block_lt_of_cell? w _ hx206_2)).trans hx206_2
                replace hx206_3 := (HB.out.cell (World.block_lt_of_cell? w _ hx206_3)).trans hx206_3
                replace hx206_4 := (HB.out.cell (World.block_lt_of_cell? w _ hx206_4)).trans hx206_4
                replace hx206_5 := (HB.out.cell (World.block_lt_of_cell? w _ hx206_5)).trans hx206_5
                replace hx206_6 := (HB.out.cell (World.block_lt_of_cell? w _ hx206_6)).trans hx206_6
                replace hx206_7 := (HB.out.cell (World.block_lt_of_cell? w _ hx206_7)).trans hx206_7
                have HR206_6 := Aside0.mk hi206_6
                have HC206_6 := Aside0.mk hl206_6
                clear hi206_6 hl206_6
                have HR206_7 := Aside0.mk hi206_7
                have HC206_7 := Aside0.mk hl206_7
                clear hi206_7 hl206_7
                replace p206 := eq_true p206
                replace q206 := eq_true q206
                go_wp2_with (first | ((with_reducible refine gate_callee (f := 53) rfl ?_); refine goesL_ (some 17) rfl rfl Tryd.func53 (by kernel_rfl) rfl #[.int .i64 ((rd_T39 l0 x4_1).f0)] rfl (by (try simp only [List.map_toArray, List.map_cons, List.map_nil]); first | done | rfl | (simp only [List.length_drop, List.length_take]; rfl)) ?_; (with_reducible refine (tmplpiperef12_block.calls ((rd_T39 l0 x4_1).f0) true _ A4.out).mono ?_); rintro e w' ⟨rfl, ⟨nd, rfl⟩⟩; refine ⟨_, rfl, ?_⟩; have p208 : 0 ≤ (x4_1 : Int) := of_decide_eq_true (by first | (with_reducible assumption) | assumption); have q208 : x4_1 < (l0.length : Int) := of_decide_eq_true (by first | (with_reducible assumption) | assumption); obtain ⟨ad208, A208_6, c208_6, A208_7, c208_7, e208, hx208_0, hx208_1, hx208_2, hx208_3, hx208_4, hx208_5, hx208_6, hx208_7, hl208_6, hi208_6, hl208_7, hi208_7⟩ := at_T39 HR0.out x4_1 p208 q208; obtain rfl : ad206 = ad208 := (by injection e208); replace hx208_0 := (HB.out.cell (World.block_lt_of_cell? w _ hx208_0)).trans hx208_0; replace hx208_1 := (HB.out.cell (World.block_lt_of_cell? w _ hx208_1)).trans hx208_1; replace hx208_2 := (HB.out.cell (World.block_lt_of_cell? w _ hx208_2)).trans hx208_2; replace hx208_3 := (HB.out.cell (World.block_lt_of_cell? w _ hx208_3)).trans hx208_3; replace hx208_4 := (HB.out.cell (World.block_lt_of_cell? w _ hx208_4)).trans hx208_4; replace hx208_5 := (HB.out.cell (World.block_lt_of_cell? w _ hx208_5)).trans hx208_5; replace hx208_6 := (HB.out.cell (World.block_lt_of_cell? w _ hx208_6)).trans hx208_6; replace hx208_7 := (HB.out.cell (World.block_lt_of_cell? w _ hx208_7)).trans hx208_7; have HR208_6 := Aside0.mk hi208_6; have HC208_6 := Aside0.mk hl208_6; clear hi208_6 hl208_6; have HR208_7 := Aside0.mk hi208_7; have HC208_7 := Aside0.mk hl208_7; clear hi208_7 hl208_7; replace p208 := eq_true p208; replace q208 := eq_true q208; have ea_ := Option.some.inj (hx206_6.symm.trans hx208_6); injection ea_ with ea_ en_ ec_; subst ea_; subst ec_; clear en_; have ea_ := Option.some.inj (hx206_7.symm.trans hx208_7); injection ea_ with ea_ en_ ec_; subst ea_; subst ec_; clear en_) | ((with_reducible refine gate_callee (f := 30) rfl ?_); refine goesL_ (some 24) rfl rfl Tryd.func30 (by kernel_rfl) rfl #[.slice A206_6 ((rd_T39 l0 x4_1).f6).length c206_6] rfl (by (try simp only [List.map_toArray, List.map_cons, List.map_nil]); first | done | rfl | (simp only [List.length_drop, List.length_take]; rfl)) ?_; (with_reducible refine (ih k1 (by have := HK1.out; omega) _ _ ((rd_T39 l0 x4_1).f6) t209 _ ?side1 ?side2 A6.out).mono ?_); (case side1 => repeat (first | exact (Kd.C_below HR208_6.out (by repeat (first | (with_reducible first | exact HB.out | apply below_alloc | apply pw_below_drewN | apply below_drew1) | exact HB.out))) | (with_reducible refine Kd.C_alloc ?_ _) | (with_reducible refine Kd.C_drewN ?_ _) | (with_reducible refine Kd.C_drew ?_))); (case side2 => exact HC208_6.out); rintro e w17 ⟨rfl, hb⟩; refine ⟨_, rfl, ?_⟩; have n0_ := Aside0.mk (below_step (by repeat (first | (with_reducible first | exact HB.out | apply below_alloc | apply pw_below_drewN | apply below_drew1) | exact HB.out)) hb); clear HB; have HB := n0_; clear n0_; (try clear hb); (try clear hb2); (try clear hk); (try clear hi); have p210 : 0 ≤ (x4_1 : Int) := of_decide_eq_true (by first | (with_reducible assumption) | assumption); have q210 : x4_1 < (l0.length : Int) := of_decide_eq_true (by first | (with_reducible assumption) | assumption); obtain ⟨ad210, A210_6, c210_6, A210_7, c210_7, e210, hx210_0, hx210_1, hx210_2, hx210_3, hx210_4, hx210_5, hx210_6, hx210_7, hl210_6, hi210_6, hl210_7, hi210_7⟩ := at_T39 HR0.out x4_1 p210 q210; obtain rfl : ad206 = ad210 := (by injection e210); replace hx210_0 := (HB.out.cell (World.block_lt_of_cell? w _ hx210_0)).trans hx210_0; replace hx210_1 := (HB.out.cell (World.block_lt_of_cell? w _ hx210_1)).trans hx210_1; replace hx210_2 := (HB.out.cell (World.block_lt_of_cell? w _ hx210_2)).trans hx210_2; replace hx210_3 := (HB.out.cell (World.block_lt_of_cell? w _ hx210_3)).trans hx210_3; replace hx210_4 := (HB.out.cell (World.block_lt_of_cell? w _ hx210_4)).trans hx210_4; replace hx210_5 := (HB.out.cell (World.block_lt_of_cell? w _ hx210_5)).trans hx210_5; replace hx210_6 := (HB.out.cell (World.block_lt_of_cell? w _ hx210_6)).trans hx210_6; replace hx210_7 := (HB.out.cell (World.block_lt_of_cell? w _ hx210_7)).trans hx210_7; have HR210_6 := Aside0.mk hi210_6; have HC210_6 := Aside0.mk hl210_6; clear hi210_6 hl210_6; have HR210_7 := Aside0.mk hi210_7; have HC210_7 := Aside0.mk hl210_7; clear hi210_7 hl210_7; replace p210 := eq_true p210; replace q210 := eq_true q210))
                go_roundg k1
                case measure => have := HK1.out; omega
                case rel => exact ⟨(x3_1), (wrap64 (x4_1 + 1)), (by first | rfl | (simp; done) | (simp [*]; done)), (by first | rfl | (simp; done) | (simp [*]; done)), H', ⟨by have := HK1.out; omega⟩, ⟨by repeat (first | (with_reducible first | exact HB.out | apply below_alloc | apply pw_below_drewN | apply below_drew1) | exact HB.out)⟩⟩
          · replace c5 := Bool.eq_false_iff.mpr c5
            subst c5
            have H1 : (tmplpiperef12_Nest.l0 k1 l0 x3_1 (wrap64 (x4_1 + 1))) = some r := by rw [if_neg (show ¬ (false = true) by decide)] at H; exact H
            clear H
            have H := H1
            clear H1
            have H' := Aside0.mk H
            clear H
            have p206 : 0 ≤ (x4_1 : Int) := of_decide_eq_true (by first | (with_reducible assumption) | assumption)
            have q206 : x4_1 < (l0.length : Int) := of_decide_eq_true (by first | (with_reducible assumption) | assumption)
            obtain ⟨ad206, A206_6, c206_6, A206_7, c206_7, e206, hx206_0, hx206_1, hx206_2, hx206_3, hx206_4, hx206_5, hx206_6, hx206_7, hl206_6, hi206_6, hl206_7, hi206_7⟩ := at_T39 HR0.out x4_1 p206 q206
            cases e206
            replace hx206_0 := (HB.out.cell (World.block_lt_of_cell? w _ hx206_0)).trans hx206_0
            replace hx206_1 := (HB.out.cell (World.block_lt_of_cell? w _ hx206_1)).trans hx206_1
            replace hx206_2 := (HB.out.cell (World.block_lt_of_cell? w _ hx206_2)).trans hx206_2
            replace hx206_3 := (HB.out.cell (World.block_lt_of_cell? w _ hx206_3)).trans hx206_3
            replace hx206_4 := (HB.out.cell (World.block_lt_of_cell? w _ hx206_4)).trans hx206_4
            replace hx206_5 := (HB.out.cell (World.block_lt_of_cell? w _ hx206_5)).trans hx206_5
            replace hx206_6 := (HB.out.cell (World.block_lt_of_cell? w _ hx206_6)).trans hx206_6
            replace hx206_7 := (HB.out.cell (World.block_lt_of_cell? w _ hx206_7)).trans hx206_7
            have HR206_6 := Aside0.mk hi206_6
            have HC206_6 := Aside0.mk hl206_6
            clear hi206_6 hl206_6
            have HR206_7 := Aside0.mk hi206_7
            have HC206_7 := Aside0.mk hl206_7
            clear hi206_7 hl206_7
            replace p206 := eq_true p206
            replace q206 := eq_true q206
            go_wp2_with (first | ((with_reducible refine gate_callee (f := 53) rfl ?_); refine goesL_ (some 17) rfl rfl Tryd.func53 (by kernel_rfl) rfl #[.int .i64 ((rd_T39 l0 x4_1).f0)] rfl (by (try simp only [List.map_toArray, List.map_cons, List.map_nil]); first | done | rfl | (simp only [List.length_drop, List.length_take]; rfl)) ?_; (with_reducible refine (tmplpiperef12_block.calls ((rd_T39 l0 x4_1).f0) false _ A4.out).mono ?_); rintro e w' ⟨rfl, ⟨nd, rfl⟩⟩; refine ⟨_, rfl, ?_⟩))
            go_roundg k1
            case measure => have := HK1.out; omega
            case rel => exact ⟨(x3_1), (wrap64 (x4_1 + 1)), (by first | rfl | (simp; done) | (simp [*]; done)), (by first | rfl | (simp; done) | (simp [*]; done)), H', ⟨by have := HK1.out; omega⟩, ⟨by repeat (first | (with_reducible first | exact HB.out | apply below_alloc | apply pw_below_drewN | apply below_drew1) | exact HB.out)⟩⟩
        · rw [if_neg c3] at H
          exact absurd H (by simp)
      · rw [if_neg c2] at H
        have c2b0 : decide (x4_1 < (l0.length : Int)) = false := decide_eq_false c2
        clear c2
        obtain rfl := Option.some.inj H
        go_wp2
        go_ret
        exact ⟨by first | rfl | (simp [errW_none, errW_some] <;> rfl) | (simp [*, errW_none, errW_some] <;> rfl), by repeat (first | (with_reducible first | exact HB.out | apply below_alloc | apply pw_below_drewN | apply below_drew1) | exact HB.out)⟩
mutual
def tmplpipelaw12_offsets.l0 : Nat → Int → Int → List (S39) → Int → Int → Option (Int × Int)
  | 0, _, _, _, _, _ => none
  | k + 1, x1, x6, x11, x12, x13 => if x13 < x12 then (if 0 ≤ x13 then (if x13 < (x11.length : Int) then (if ((rd_T39 x11 x13).f1) ≤ x1 then ((tmplpipelaw12_offsets.f k ((rd_T39 x11 x13).f6) ((rd_T39 x11 x13).f1)).bind fun bt222 => ((tmplpipelaw12_offsets.f k ((rd_T39 x11 x13).f7) bt222.1).bind fun bt224 => (tmplpipelaw12_offsets.l0 k bt224.1 (wrap64 ((wrap64 (x6 + 1)) + (wrap64 (bt222.2 + bt224.2)))) x11 x12 (wrap64 (x13 + 1))))) else ((tmplpipelaw12_offsets.f k ((rd_T39 x11 x13).f6) ((rd_T39 x11 x13).f1)).bind fun bt226 => ((tmplpipelaw12_offsets.f k ((rd_T39 x11 x13).f7) bt226.1).bind fun bt228 => (tmplpipelaw12_offsets.l0 k bt228.1 (wrap64 (x6 + (wrap64 (bt226.2 + bt228.2)))) x11 x12 (wrap64 (x13 + 1)))))) else (none)) else (none)) else (some (x1, x6))
def tmplpipelaw12_offsets.f : Nat → List (S39) → Int → Option (Int × Int)
  | 0, _, _ => none
  | k + 1, l0, a1 => tmplpipelaw12_offsets.l0 k a1 0 l0 (l0.length : Int) 0
end
set_option maxHeartbeats 8000000 in
set_option maxRecDepth 100000 in
theorem tmplpipelaw12_offsets.calls (k : Nat) : ∀ (A0 : Option Addr) (c0 : Nat) (l0 : List (S39)) (a1 : Int) (r1 : Int) (r2 : Int) (w : World) (hr0 : Kd.C k39 w A0 l0.length l0) (hc0 : l0.length ≤ c0) (h : tmplpipelaw12_offsets.f k l0 a1 = some (r1, r2)),
    Calls Tryd.prog 31 #[.slice A0 l0.length c0, .int .i64 a1] w fun e w' => e = .returned (.tuple #[.int .i64 r1, .int .i64 r2]) ∧ Below w.heap.size w w' := by
  induction k using Nat.strongRecOn with
  | _ k ih =>
  intro A0 c0 l0 a1 r1 r2 w hr0 hc0 h
  cases k with
  | zero => exact absurd h (by simp [tmplpipelaw12_offsets.f])
  | succ k =>
  simp only [tmplpipelaw12_offsets.f] at h
  have hu39 := Tryd.underlying39
  have HR0 := Aside0.mk hr0
  have HC0 := Aside0.mk hc0
  clear hr0 hc0
  have HB := Aside0.mk (Below.refl w.heap.size w)
  have H : (tmplpipelaw12_offsets.l0 k a1 0 l0 (l0.length : Int) 0) = some (r1, r2) := h
  clear h
  have H' := Aside0.mk H
  clear H
  go_enter Tryd.func31, Tryd.ntmps31
  go_wp2
  go_loopg [1, 6, 13] k (fun kq v1 v6 v13 w' => ∃ (x1_1 : Int) (x6_1 : Int) (x13_1 : Int), v1 = .int .i64 x1_1 ∧ v6 = .int .i64 x6_1 ∧ v13 = .int .i64 x13_1 ∧ Aside0 (tmplpipelaw12_offsets.l0 kq x1_1 x6_1 l0 (l0.length : Int) x13_1 = some (r1, r2)) ∧ Aside0 (kq ≤ k) ∧ Aside0 (Below w.heap.size w w'))
  case atStart => exact ⟨(a1), (0), (0), (by first | rfl | (simp; done) | (simp [*]; done)), (by first | rfl | (simp; done) | (simp [*]; done)), (by first | rfl | (simp; done) | (simp [*]; done)), H', ⟨Nat.le_refl _⟩, ⟨by repeat (first | (with_reducible first | exact HB.out | apply below_alloc | apply pw_below_drewN | apply below_drew1) | exact HB.out)⟩⟩
  case round =>
    clear H'
    try clear p2
    obtain ⟨x1_1, x6_1, x13_1, rfl, rfl, rfl, HA, HK1, HB⟩ := hrel
    cases gk with
    | zero => exact absurd HA.out (by simp [tmplpipelaw12_offsets.l0])
    | succ k1 =>
      have H := HA.out
      clear HA
      simp only [tmplpipelaw12_offsets.l0] at H
      by_cases c3 : x13_1 < (l0.length : Int)
      · rw [if_pos c3] at H
        have c3b0 : decide (x13_1 < (l0.length : Int)) = true := decide_eq_true c3
        clear c3
        by_cases c4 : 0 ≤ x13_1
        · rw [if_pos c4] at H
          have c4b0 : decide (0 ≤ x13_1) = true := decide_eq_true c4
          clear c4
          by_cases c5 : x13_1 < (l0.length : Int)
          · rw [if_pos c5] at H
            have c5b0 : decide (x13_1 < (l0.length : Int)) = true := decide_eq_true c5
            clear c5
            by_cases c6 : ((rd_T39 l0 x13_1).f1) ≤ x1_1
            · rw [if_pos c6] at H
              have c6b0 : decide (((rd_T39 l0 x13_1).f1) ≤ x1_1) = true := decide_eq_true c6
              clear c6
              replace H := Option.bind_eq_some_iff.mp H
              obtain ⟨⟨t222, t223⟩, A70, H⟩ := H
              replace H : ((tmplpipelaw12_offsets.f k1 ((rd_T39 l0 x13_1).f7) t222).bind fun bt224 => (tmplpipelaw12_offsets.l0 k1 bt224.1 (wrap64 ((wrap64 (x6_1 + 1)) + (wrap64 (t223 + bt224.2)))) l0 (l0.length : Int) (wrap64 (x13_1 + 1)))) = some (r1, r2) := H
              have A7 := Aside0.mk A70
              clear A70
              replace H := Option.bind_eq_some_iff.mp H
              obtain ⟨⟨t224, t225⟩, A80, H⟩ := H
              replace H : (tmplpipelaw12_offsets.l0 k1 t224 (wrap64 ((wrap64 (x6_1 + 1)) + (wrap64 (t223 + t225)))) l0 (l0.length : Int) (wrap64 (x13_1 + 1))) = some (r1, r2) := H
              have A8 := Aside0.mk A80
              clear A80
              have H' := Aside0.mk H
              clear H
              have p220 : 0 ≤ (x13_1 : Int) := of_decide_eq_true (by first | (with_reducible assumption) | assumption)
              have q220 : x13_1 < (l0.length : Int) := of_decide_eq_true (by first | (with_reducible assumption) | assumption)
              obtain ⟨ad220, A220_6, c220_6, A220_7, c220_7, e220, hx220_0, hx220_1, hx220_2, hx220_3, hx220_4, hx220_5, hx220_6, hx220_7, hl220_6, hi220_6, hl220_7, hi220_7⟩ := at_T39 HR0.out x13_1 p220 q220
              cases e220
              replace hx220_0 := (HB.out.cell (World.block_lt_of_cell? w _ hx220_0)).trans hx220_0
              replace hx220_1 := (HB.out.cell (World.block_lt_of_cell? w _ hx220_1)).trans hx220_1
              replace hx220_2 := (HB.out.cell (World.block_lt_of_cell? w _ hx220_2)).trans hx220_2
              replace hx220_3 := (HB.out.cell (World.block_lt_of_cell? w _ hx220_3)).trans hx220_3
              replace hx220_4 := (HB.out.cell (World.block_lt_of_cell? w _ hx220_4)).trans hx220_4
              replace hx220_5 := (HB.out.cell (World.block_lt_of_cell? w _ hx220_5)).trans hx220_5
              replace hx220_6 := (HB.out.cell (World.block_lt_of_cell? w _ hx220_6)).trans hx220_6
              replace hx220_7 := (HB.out.cell (World.block_lt_of_cell? w _ hx220_7)).trans hx220_7
              have HR220_6 := Aside0.mk hi220_6
              have HC220_6 := Aside0.mk hl220_6
              clear hi220_6 hl220_6
              have HR220_7 := Aside0.mk hi220_7
              have HC220_7 := Aside0.mk hl220_7
              clear hi220_7 hl220_7
              replace p220 := eq_true p220
              replace q220 := eq_true q220
              go_wp2_with (first | ((with_reducible refine gate_dst (N := 8) rfl ?_); refine box_event ?hg (N := 8) ?hd (cs := #[.int .i64 0, .int .i64 0, .string (⟨#[]⟩ : ByteArray), .string (⟨#[]⟩ : ByteArray), .bool false, .bool false, .slice none 0 0, .slice none 0 0]) (t := 39) ?hr ?_; (case hd => rfl); (case hg => rfl); (case hr => first | (go_simp; done) | (go_simp; rfl)); intro gb221 hg w9 hbox hb; have n0_ := Aside0.mk (below_step (by repeat (first | (with_reducible first | exact HB.out | apply below_alloc | apply pw_below_drewN | apply below_drew1) | exact HB.out)) hb); have n1_ := Aside0.mk (hbox); have n2_ := Aside0.mk ((by rw [hg]; exact (below_size (by repeat (first | (with_reducible first | exact HB.out | apply below_alloc | apply pw_below_drewN | apply below_drew1) | exact HB.out))) : w.heap.size ≤ gb221)); have n3_ := Aside0.mk ((by rw [hg]; exact (below_size (by repeat (first | (with_reducible first | exact HB.out | apply below_alloc | apply pw_below_drewN | apply below_drew1) | exact HB.out))) : w.heap.size ≤ gb221)); clear HB; have HB := n0_; have BK221 := n1_; have GW221 := n2_; have GE221 := n3_; clear n0_ n1_ n2_ n3_; clear hb hbox hg; have hcz10_0 : w9.cell? ⟨gb221, 0, none⟩ = some (.int .i64 0) := (blk_cell BK221.out 0).trans rfl; have hcz10_1 : w9.cell? ⟨gb221, 1, none⟩ = some (.int .i64 0) := (blk_cell BK221.out 1).trans rfl; have hcz10_2 : w9.cell? ⟨gb221, 2, none⟩ = some (.string (⟨#[]⟩ : ByteArray)) := (blk_cell BK221.out 2).trans rfl; have hcz10_3 : w9.cell? ⟨gb221, 3, none⟩ = some (.string (⟨#[]⟩ : ByteArray)) := (blk_cell BK221.out 3).trans rfl; have hcz10_4 : w9.cell? ⟨gb221, 4, none⟩ = some (.bool false) := (blk_cell BK221.out 4).trans rfl; have hcz10_5 : w9.cell? ⟨gb221, 5, none⟩ = some (.bool false) := (blk_cell BK221.out 5).trans rfl; have hcz10_6 : w9.cell? ⟨gb221, 6, none⟩ = some (.slice none 0 0) := (blk_cell BK221.out 6).trans rfl; have hcz10_7 : w9.cell? ⟨gb221, 7, none⟩ = some (.slice none 0 0) := (blk_cell BK221.out 7).trans rfl; have hfz10_0 := blk_frozen BK221.out 0; have hfz10_1 := blk_frozen BK221.out 1; have hfz10_2 := blk_frozen BK221.out 2; have hfz10_3 := blk_frozen BK221.out 3; have hfz10_4 := blk_frozen BK221.out 4; have hfz10_5 := blk_frozen BK221.out 5; have hfz10_6 := blk_frozen BK221.out 6; have hfz10_7 := blk_frozen BK221.out 7) | ((with_reducible refine gate_callee (f := 31) rfl ?_); refine goesL_ (some 29) rfl rfl Tryd.func31 (by kernel_rfl) rfl #[.slice A220_6 ((rd_T39 l0 x13_1).f6).length c220_6, .int .i64 ((rd_T39 l0 x13_1).f1)] rfl (by (try simp only [List.map_toArray, List.map_cons, List.map_nil]); first | done | rfl | (simp only [List.length_drop, List.length_take]; rfl)) ?_; (with_reducible refine (ih k1 (by have := HK1.out; omega) _ _ ((rd_T39 l0 x13_1).f6) ((rd_T39 l0 x13_1).f1) t222 t223 _ ?side1 ?side2 A7.out).mono ?_); (case side1 => exact Kd.C_below HR220_6.out (by repeat (first | (with_reducible first | exact HB.out | apply below_alloc | apply pw_below_drewN | apply below_drew1 | refine below_set ?_ GE221.out) | exact HB.out))); (case side2 => exact HC220_6.out); rintro e w11 ⟨rfl, hb⟩; refine ⟨_, rfl, ?_⟩; have n0_ := Aside0.mk (blk_below (g := gb221) (o := .cells #[.int .i64 ((rd_T39 l0 x13_1).f0), .int .i64 ((rd_T39 l0 x13_1).f1), .string ((rd_T39 l0 x13_1).f2), .string ((rd_T39 l0 x13_1).f3), .bool ((rd_T39 l0 x13_1).f4), .bool ((rd_T39 l0 x13_1).f5), .slice A220_6 ((rd_T39 l0 x13_1).f6).length c220_6, .slice A220_7 ((rd_T39 l0 x13_1).f7).length c220_7] 39 (0, 0)) (by (with_reducible repeat (first | refine blk_drewN ?_ _ | refine blk_drew ?_ | refine blk_alloc ?_ _)); refine blk_put (cs := #[.int .i64 ((rd_T39 l0 x13_1).f0), .int .i64 ((rd_T39 l0 x13_1).f1), .string ((rd_T39 l0 x13_1).f2), .string ((rd_T39 l0 x13_1).f3), .bool ((rd_T39 l0 x13_1).f4), .bool ((rd_T39 l0 x13_1).f5), .slice A220_6 ((rd_T39 l0 x13_1).f6).length c220_6, .slice none 0 0]) ?_ 7 _ rfl; (with_reducible repeat (first | refine blk_drewN ?_ _ | refine blk_drew ?_ | refine blk_alloc ?_ _)); refine blk_put (cs := #[.int .i64 ((rd_T39 l0 x13_1).f0), .int .i64 ((rd_T39 l0 x13_1).f1), .string ((rd_T39 l0 x13_1).f2), .string ((rd_T39 l0 x13_1).f3), .bool ((rd_T39 l0 x13_1).f4), .bool ((rd_T39 l0 x13_1).f5), .slice none 0 0, .slice none 0 0]) ?_ 6 _ rfl; (with_reducible repeat (first | refine blk_drewN ?_ _ | refine blk_drew ?_ | refine blk_alloc ?_ _)); refine blk_put (cs := #[.int .i64 ((rd_T39 l0 x13_1).f0), .int .i64 ((rd_T39 l0 x13_1).f1), .string ((rd_T39 l0 x13_1).f2), .string ((rd_T39 l0 x13_1).f3), .bool ((rd_T39 l0 x13_1).f4), .bool false, .slice none 0 0, .slice none 0 0]) ?_ 5 _ rfl; (with_reducible repeat (first | refine blk_drewN ?_ _ | refine blk_drew ?_ | refine blk_alloc ?_ _)); refine blk_put (cs := #[.int .i64 ((rd_T39 l0 x13_1).f0), .int .i64 ((rd_T39 l0 x13_1).f1), .string ((rd_T39 l0 x13_1).f2), .string ((rd_T39 l0 x13_1).f3), .bool false, .bool false, .slice none 0 0, .slice none 0 0]) ?_ 4 _ rfl; (with_reducible repeat (first | refine blk_drewN ?_ _ | refine blk_drew ?_ | refine blk_alloc ?_ _)); refine blk_put (cs := #[.int .i64 ((rd_T39 l0 x13_1).f0), .int .i64 ((rd_T39 l0 x13_1).f1), .string ((rd_T39 l0 x13_1).f2), .string (⟨#[]⟩ : ByteArray), .bool false, .bool false, .slice none 0 0, .slice none 0 0]) ?_ 3 _ rfl; (with_reducible repeat (first | refine blk_drewN ?_ _ | refine blk_drew ?_ | refine blk_alloc ?_ _)); refine blk_put (cs := #[.int .i64 ((rd_T39 l0 x13_1).f0), .int .i64 ((rd_T39 l0 x13_1).f1), .string (⟨#[]⟩ : ByteArray), .string (⟨#[]⟩ : ByteArray), .bool false, .bool false, .slice none 0 0, .slice none 0 0]) ?_ 2 _ rfl; (with_reducible repeat (first | refine blk_drewN ?_ _ | refine blk_drew ?_ | refine blk_alloc ?_ _)); refine blk_put (cs := #[.int .i64 ((rd_T39 l0 x13_1).f0), .int .i64 0, .string (⟨#[]⟩ : ByteArray), .string (⟨#[]⟩ : ByteArray), .bool false, .bool false, .slice none 0 0, .slice none 0 0]) ?_ 1 _ rfl; (with_reducible repeat (first | refine blk_drewN ?_ _ | refine blk_drew ?_ | refine blk_alloc ?_ _)); refine blk_put (cs := #[.int .i64 0, .int .i64 0, .string (⟨#[]⟩ : ByteArray), .string (⟨#[]⟩ : ByteArray), .bool false, .bool false, .slice none 0 0, .slice none 0 0]) ?_ 0 _ rfl; (with_reducible repeat (first | refine blk_drewN ?_ _ | refine blk_drew ?_ | refine blk_alloc ?_ _)); exact BK221.out) hb); have n1_ := Aside0.mk (below_step (by repeat (first | (with_reducible first | exact HB.out | apply below_alloc | apply pw_below_drewN | apply below_drew1 | refine below_set ?_ GE221.out) | exact HB.out)) hb); clear BK221; clear HB; have BK221 := n0_; have HB := n1_; clear n0_ n1_; (try clear hb); (try clear hb2); (try clear hk); (try clear hi); have hcz12_0 : w11.cell? ⟨gb221, 0, none⟩ = some (.int .i64 ((rd_T39 l0 x13_1).f0)) := (blk_cell BK221.out 0).trans rfl; have hcz12_1 : w11.cell? ⟨gb221, 1, none⟩ = some (.int .i64 ((rd_T39 l0 x13_1).f1)) := (blk_cell BK221.out 1).trans rfl; have hcz12_2 : w11.cell? ⟨gb221, 2, none⟩ = some (.string ((rd_T39 l0 x13_1).f2)) := (blk_cell BK221.out 2).trans rfl; have hcz12_3 : w11.cell? ⟨gb221, 3, none⟩ = some (.string ((rd_T39 l0 x13_1).f3)) := (blk_cell BK221.out 3).trans rfl; have hcz12_4 : w11.cell? ⟨gb221, 4, none⟩ = some (.bool ((rd_T39 l0 x13_1).f4)) := (blk_cell BK221.out 4).trans rfl; have hcz12_5 : w11.cell? ⟨gb221, 5, none⟩ = some (.bool ((rd_T39 l0 x13_1).f5)) := (blk_cell BK221.out 5).trans rfl; have hcz12_6 : w11.cell? ⟨gb221, 6, none⟩ = some (.slice A220_6 ((rd_T39 l0 x13_1).f6).length c220_6) := (blk_cell BK221.out 6).trans rfl; have hcz12_7 : w11.cell? ⟨gb221, 7, none⟩ = some (.slice A220_7 ((rd_T39 l0 x13_1).f7).length c220_7) := (blk_cell BK221.out 7).trans rfl; have hfz12_0 := blk_frozen BK221.out 0; have hfz12_1 := blk_frozen BK221.out 1; have hfz12_2 := blk_frozen BK221.out 2; have hfz12_3 := blk_frozen BK221.out 3; have hfz12_4 := blk_frozen BK221.out 4; have hfz12_5 := blk_frozen BK221.out 5; have hfz12_6 := blk_frozen BK221.out 6; have hfz12_7 := blk_frozen BK221.out 7) | ((with_reducible refine gate_callee (f := 31) rfl ?_); refine goesL_ (some 36) rfl rfl Tryd.func31 (by kernel_rfl) rfl #[.slice A220_7 ((rd_T39 l0 x13_1).f7).length c220_7, .int .i64 t222] rfl (by (try simp only [List.map_toArray, List.map_cons, List.map_nil]); first | done | rfl | (simp only [List.length_drop, List.length_take]; rfl)) ?_; (with_reducible refine (ih k1 (by have := HK1.out; omega) _ _ ((rd_T39 l0 x13_1).f7) t222 t224 t225 _ ?side1 ?side2 A8.out).mono ?_); (case side1 => repeat (first | exact (Kd.C_below HR220_7.out HB.out) | (with_reducible refine Kd.C_alloc ?_ _) | (with_reducible refine Kd.C_drewN ?_ _) | (with_reducible refine Kd.C_drew ?_))); (case side2 => exact HC220_7.out); rintro e w13 ⟨rfl, hb⟩; refine ⟨_, rfl, ?_⟩; have n0_ := Aside0.mk (blk_below (g := gb221) (o := .cells #[.int .i64 ((rd_T39 l0 x13_1).f0), .int .i64 ((rd_T39 l0 x13_1).f1), .string ((rd_T39 l0 x13_1).f2), .string ((rd_T39 l0 x13_1).f3), .bool ((rd_T39 l0 x13_1).f4), .bool ((rd_T39 l0 x13_1).f5), .slice A220_6 ((rd_T39 l0 x13_1).f6).length c220_6, .slice A220_7 ((rd_T39 l0 x13_1).f7).length c220_7] 39 (0, 0)) (by (with_reducible repeat (first | refine blk_drewN ?_ _ | refine blk_drew ?_ | refine blk_alloc ?_ _)); exact BK221.out) hb); have n1_ := Aside0.mk (below_step (by repeat (first | (with_reducible first | exact HB.out | apply below_alloc | apply pw_below_drewN | apply below_drew1 | refine below_set ?_ GE221.out) | exact HB.out)) hb); clear BK221; clear HB; have BK221 := n0_; have HB := n1_; clear n0_ n1_; (try clear hb); (try clear hb2); (try clear hk); (try clear hi)))
              go_roundg k1
              case measure => have := HK1.out; omega
              case rel => exact ⟨(t224), (wrap64 ((wrap64 (x6_1 + 1)) + (wrap64 (t223 + t225)))), (wrap64 (x13_1 + 1)), (by first | rfl | (simp; done) | (simp [*]; done)), (by first | rfl | (simp; done) | (simp [*]; done)), (by first | rfl | (simp; done) | (simp [*]; done)), H', ⟨by have := HK1.out; omega⟩, ⟨by repeat (first | (with_reducible first | exact HB.out | apply below_alloc | apply pw_below_drewN | apply below_drew1 | refine below_set ?_ GE221.out) | exact HB.out)⟩⟩
            · rw [if_neg c6] at H
              have c6b0 : decide (((rd_T39 l0 x13_1).f1) ≤ x1_1) = false := decide_eq_false c6
              clear c6
              replace H := Option.bind_eq_some_iff.mp H
              obtain ⟨⟨t226, t227⟩, A140, H⟩ := H
              replace H : ((tmplpipelaw12_offsets.f k1 ((rd_T39 l0 x13_1).f7) t226).bind fun bt228 => (tmplpipelaw12_offsets.l0 k1 bt228.1 (wrap64 (x6_1 + (wrap64 (t227 + bt228.2)))) l0 (l0.length : Int) (wrap64 (x13_1 + 1)))) = some (r1, r2) := H
              have A14 := Aside0.mk A140
              clear A140
              replace H := Option.bind_eq_some_iff.mp H
              obtain ⟨⟨t228, t229⟩, A150, H⟩ := H
              replace H : (tmplpipelaw12_offsets.l0 k1 t228 (wrap64 (x6_1 + (wrap64 (t227 + t229)))) l0 (l0.length : Int) (wrap64 (x13_1 + 1))) = some (r1, r2) := H
              have A15 := Aside0.mk A150
              clear A150
              have H' := Aside0.mk H
              clear H
              have p220 : 0 ≤ (x13_1 : Int) := of_decide_eq_true (by first | (with_reducible assumption) | assumption)
              have q220 : x13_1 < (l0.length : Int) := of_decide_eq_true (by first | (with_reducible assumption) | assumption)
              obtain ⟨ad220, A220_6, c220_6, A220_7, c220_7, e220, hx220_0, hx220_1, hx220_2, hx220_3, hx220_4, hx220_5, hx220_6, hx220_7, hl220_6, hi220_6, hl220_7, hi220_7⟩ := at_T39 HR0.out x13_1 p220 q220
              cases e220
              replace hx220_0 := (HB.out.cell (World.block_lt_of_cell? w _ hx220_0)).trans hx220_0
              replace hx220_1 := (HB.out.cell (World.block_lt_of_cell? w _ hx220_1)).trans hx220_1
              replace hx220_2 := (HB.out.cell (World.block_lt_of_cell? w _ hx220_2)).trans hx220_2
              replace hx220_3 := (HB.out.cell (World.block_lt_of_cell? w _ hx220_3)).trans hx220_3
              replace hx220_4 := (HB.out.cell (World.block_lt_of_cell? w _ hx220_4)).trans hx220_4
              replace hx220_5 := (HB.out.cell (World.block_lt_of_cell? w _ hx220_5)).trans hx220_5
              replace hx220_6 := (HB.out.cell (World.block_lt_of_cell? w _ hx220_6)).trans hx220_6
              replace hx220_7 := (HB.out.cell (World.block_lt_of_cell? w _ hx220_7)).trans hx220_7
              have HR220_6 := Aside0.mk hi220_6
              have HC220_6 := Aside0.mk hl220_6
              clear hi220_6 hl220_6
              have HR220_7 := Aside0.mk hi220_7
              have HC220_7 := Aside0.mk hl220_7
              clear hi220_7 hl220_7
              replace p220 := eq_true p220
              replace q220 := eq_true q220
              go_wp2_with (first | ((with_reducible refine gate_dst (N := 8) rfl ?_); refine box_event ?hg (N := 8) ?hd (cs := #[.int .i64 0, .int .i64 0, .string (⟨#[]⟩ : ByteArray), .string (⟨#[]⟩ : ByteArray), .bool false, .bool false, .slice none 0 0, .slice none 0 0]) (t := 39) ?hr ?_; (case hd => rfl); (case hg => rfl); (case hr => first | (go_simp; done) | (go_simp; rfl)); intro gb221 hg w16 hbox hb; have n0_ := Aside0.mk (below_step (by repeat (first | (with_reducible first | exact HB.out | apply below_alloc | apply pw_below_drewN | apply below_drew1) | exact HB.out)) hb); have n1_ := Aside0.mk (hbox); have n2_ := Aside0.mk ((by rw [hg]; exact (below_size (by repeat (first | (with_reducible first | exact HB.out | apply below_alloc | apply pw_below_drewN | apply below_drew1) | exact HB.out))) : w.heap.size ≤ gb221)); have n3_ := Aside0.mk ((by rw [hg]; exact (below_size (by repeat (first | (with_reducible first | exact HB.out | apply below_alloc | apply pw_below_drewN | apply below_drew1) | exact HB.out))) : w.heap.size ≤ gb221)); clear HB; have HB := n0_; have BK221 := n1_; have GW221 := n2_; have GE221 := n3_; clear n0_ n1_ n2_ n3_; clear hb hbox hg; have hcz17_0 : w16.cell? ⟨gb221, 0, none⟩ = some (.int .i64 0) := (blk_cell BK221.out 0).trans rfl; have hcz17_1 : w16.cell? ⟨gb221, 1, none⟩ = some (.int .i64 0) := (blk_cell BK221.out 1).trans rfl; have hcz17_2 : w16.cell? ⟨gb221, 2, none⟩ = some (.string (⟨#[]⟩ : ByteArray)) := (blk_cell BK221.out 2).trans rfl; have hcz17_3 : w16.cell? ⟨gb221, 3, none⟩ = some (.string (⟨#[]⟩ : ByteArray)) := (blk_cell BK221.out 3).trans rfl; have hcz17_4 : w16.cell? ⟨gb221, 4, none⟩ = some (.bool false) := (blk_cell BK221.out 4).trans rfl; have hcz17_5 : w16.cell? ⟨gb221, 5, none⟩ = some (.bool false) := (blk_cell BK221.out 5).trans rfl; have hcz17_6 : w16.cell? ⟨gb221, 6, none⟩ = some (.slice none 0 0) := (blk_cell BK221.out 6).trans rfl; have hcz17_7 : w16.cell? ⟨gb221, 7, none⟩ = some (.slice none 0 0) := (blk_cell BK221.out 7).trans rfl; have hfz17_0 := blk_frozen BK221.out 0; have hfz17_1 := blk_frozen BK221.out 1; have hfz17_2 := blk_frozen BK221.out 2; have hfz17_3 := blk_frozen BK221.out 3; have hfz17_4 := blk_frozen BK221.out 4; have hfz17_5 := blk_frozen BK221.out 5; have hfz17_6 := blk_frozen BK221.out 6; have hfz17_7 := blk_frozen BK221.out 7) | ((with_reducible refine gate_callee (f := 31) rfl ?_); refine goesL_ (some 29) rfl rfl Tryd.func31 (by kernel_rfl) rfl #[.slice A220_6 ((rd_T39 l0 x13_1).f6).length c220_6, .int .i64 ((rd_T39 l0 x13_1).f1)] rfl (by (try simp only [List.map_toArray, List.map_cons, List.map_nil]); first | done | rfl | (simp only [List.length_drop, List.length_take]; rfl)) ?_; (with_reducible refine (ih k1 (by have := HK1.out; omega) _ _ ((rd_T39 l0 x13_1).f6) ((rd_T39 l0 x13_1).f1) t226 t227 _ ?side1 ?side2 A14.out).mono ?_); (case side1 => exact Kd.C_below HR220_6.out (by repeat (first | (with_reducible first | exact HB.out | apply below_alloc | apply pw_below_drewN | apply below_drew1 | refine below_set ?_ GE221.out) | exact HB.out))); (case side2 => exact HC220_6.out); rintro e w18 ⟨rfl, hb⟩; refine ⟨_, rfl, ?_⟩; have n0_ := Aside0.mk (blk_below (g := gb221) (o := .cells #[.int .i64 ((rd_T39 l0 x13_1).f0), .int .i64 ((rd_T39 l0 x13_1).f1), .string ((rd_T39 l0 x13_1).f2), .string ((rd_T39 l0 x13_1).f3), .bool ((rd_T39 l0 x13_1).f4), .bool ((rd_T39 l0 x13_1).f5), .slice A220_6 ((rd_T39 l0 x13_1).f6).length c220_6, .slice A220_7 ((rd_T39 l0 x13_1).f7).length c220_7] 39 (0, 0)) (by (with_reducible repeat (first | refine blk_drewN ?_ _ | refine blk_drew ?_ | refine blk_alloc ?_ _)); refine blk_put (cs := #[.int .i64 ((rd_T39 l0 x13_1).f0), .int .i64 ((rd_T39 l0 x13_1).f1), .string ((rd_T39 l0 x13_1).f2), .string ((rd_T39 l0 x13_1).f3), .bool ((rd_T39 l0 x13_1).f4), .bool ((rd_T39 l0 x13_1).f5), .slice A220_6 ((rd_T39 l0 x13_1).f6).length c220_6, .slice none 0 0]) ?_ 7 _ rfl; (with_reducible repeat (first | refine blk_drewN ?_ _ | refine blk_drew ?_ | refine blk_alloc ?_ _)); refine blk_put (cs := #[.int .i64 ((rd_T39 l0 x13_1).f0), .int .i64 ((rd_T39 l0 x13_1).f1), .string ((rd_T39 l0 x13_1).f2), .string ((rd_T39 l0 x13_1).f3), .bool ((rd_T39 l0 x13_1).f4), .bool ((rd_T39 l0 x13_1).f5), .slice none 0 0, .slice none 0 0]) ?_ 6 _ rfl; (with_reducible repeat (first | refine blk_drewN ?_ _ | refine blk_drew ?_ | refine blk_alloc ?_ _)); refine blk_put (cs := #[.int .i64 ((rd_T39 l0 x13_1).f0), .int .i64 ((rd_T39 l0 x13_1).f1), .string ((rd_T39 l0 x13_1).f2), .string ((rd_T39 l0 x13_1).f3), .bool ((rd_T39 l0 x13_1).f4), .bool false, .slice none 0 0, .slice none 0 0]) ?_ 5 _ rfl; (with_reducible repeat (first | refine blk_drewN ?_ _ | refine blk_drew ?_ | refine blk_alloc ?_ _)); refine blk_put (cs := #[.int .i64 ((rd_T39 l0 x13_1).f0), .int .i64 ((rd_T39 l0 x13_1).f1), .string ((rd_T39 l0 x13_1).f2), .string ((rd_T39 l0 x13_1).f3), .bool false, .bool false, .slice none 0 0, .slice none 0 0]) ?_ 4 _ rfl; (with_reducible repeat (first | refine blk_drewN ?_ _ | refine blk_drew ?_ | refine blk_alloc ?_ _)); refine blk_put (cs := #[.int .i64 ((rd_T39 l0 x13_1).f0), .int .i64 ((rd_T39 l0 x13_1).f1), .string ((rd_T39 l0 x13_1).f2), .string (⟨#[]⟩ : ByteArray), .bool false, .bool false, .slice none 0 0, .slice none 0 0]) ?_ 3 _ rfl; (with_reducible repeat (first | refine blk_drewN ?_ _ | refine blk_drew ?_ | refine blk_alloc ?_ _)); refine blk_put (cs := #[.int .i64 ((rd_T39 l0 x13_1).f0), .int .i64 ((rd_T39 l0 x13_1).f1), .string (⟨#[]⟩ : ByteArray), .string (⟨#[]⟩ : ByteArray), .bool false, .bool false, .slice none 0 0, .slice none 0 0]) ?_ 2 _ rfl; (with_reducible repeat (first | refine blk_drewN ?_ _ | refine blk_drew ?_ | refine blk_alloc ?_ _)); refine blk_put (cs := #[.int .i64 ((rd_T39 l0 x13_1).f0), .int .i64 0, .string (⟨#[]⟩ : ByteArray), .string (⟨#[]⟩ : ByteArray), .bool false, .bool false, .slice none 0 0, .slice none 0 0]) ?_ 1 _ rfl; (with_reducible repeat (first | refine blk_drewN ?_ _ | refine blk_drew ?_ | refine blk_alloc ?_ _)); refine blk_put (cs := #[.int .i64 0, .int .i64 0, .string (⟨#[]⟩ : ByteArray), .string (⟨#[]⟩ : ByteArray), .bool false, .bool false, .slice none 0 0, .slice none 0 0]) ?_ 0 _ rfl; (with_reducible repeat (first | refine blk_drewN ?_ _ | refine blk_drew ?_ | refine blk_alloc ?_ _)); exact BK221.out) hb); have n1_ := Aside0.mk (below_step (by repeat (first | (with_reducible first | exact HB.out | apply below_alloc | apply pw_below_drewN | apply below_drew1 | refine below_set ?_ GE221.out) | exact HB.out)) hb); clear BK221; clear HB; have BK221 := n0_; have HB := n1_; clear n0_ n1_; (try clear hb); (try clear hb2); (try clear hk); (try clear hi); have hcz19_0 : w18.cell? ⟨gb221, 0, none⟩ = some (.int .i64 ((rd_T39 l0 x13_1).f0)) := (blk_cell BK221.out 0).trans rfl; have hcz19_1 : w18.cell? ⟨gb221, 1, none⟩ = some (.int .i64 ((rd_T39 l0 x13_1).f1)) := (blk_cell BK221.out 1).trans rfl; have hcz19_2 : w18.cell? ⟨gb221, 2, none⟩ = some (.string ((rd_T39 l0 x13_1).f2)) := (blk_cell BK221.out 2).trans rfl; have hcz19_3 : w18.cell? ⟨gb221, 3, none⟩ = some (.string ((rd_T39 l0 x13_1).f3)) := (blk_cell BK221.out 3).trans rfl; have hcz19_4 : w18.cell? ⟨gb221, 4, none⟩ = some (.bool ((rd_T39 l0 x13_1).f4)) := (blk_cell BK221.out 4).trans rfl; have hcz19_5 : w18.cell? ⟨gb221, 5, none⟩ = some (.bool ((rd_T39 l0 x13_1).f5)) := (blk_cell BK221.out 5).trans rfl; have hcz19_6 : w18.cell? ⟨gb221, 6, none⟩ = some (.slice A220_6 ((rd_T39 l0 x13_1).f6).length c220_6) := (blk_cell BK221.out 6).trans rfl; have hcz19_7 : w18.cell? ⟨gb221, 7, none⟩ = some (.slice A220_7 ((rd_T39 l0 x13_1).f7).length c220_7) := (blk_cell BK221.out 7).trans rfl; have hfz19_0 := blk_frozen BK221.out 0; have hfz19_1 := blk_frozen BK221.out 1; have hfz19_2 := blk_frozen BK221.out 2; have hfz19_3 := blk_frozen BK221.out 3; have hfz19_4 := blk_frozen BK221.out 4; have hfz19_5 := blk_frozen BK221.out 5; have hfz19_6 := blk_frozen BK221.out 6; have hfz19_7 := blk_frozen BK221.out 7) | ((with_reducible refine gate_callee (f := 31) rfl ?_); refine goesL_ (some 36) rfl rfl Tryd.func31 (by kernel_rfl) rfl #[.slice A220_7 ((rd_T39 l0 x13_1).f7).length c220_7, .int .i64 t226] rfl (by (try simp only [List.map_toArray, List.map_cons, List.map_nil]); first | done | rfl | (simp only [List.length_drop, List.length_take]; rfl)) ?_; (with_reducible refine (ih k1 (by have := HK1.out; omega) _ _ ((rd_T39 l0 x13_1).f7) t226 t228 t229 _ ?side1 ?side2 A15.out).mono ?_); (case side1 => repeat (first | exact (Kd.C_below HR220_7.out HB.out) | (with_reducible refine Kd.C_alloc ?_ _) | (with_reducible refine Kd.C_drewN ?_ _) | (with_reducible refine Kd.C_drew ?_))); (case side2 => exact HC220_7.out); rintro e w20 ⟨rfl, hb⟩; refine ⟨_, rfl, ?_⟩; have n0_ := Aside0.mk (blk_below (g := gb221) (o := .cells #[.int .i64 ((rd_T39 l0 x13_1).f0), .int .i64 ((rd_T39 l0 x13_1).f1), .string ((rd_T39 l0 x13_1).f2), .string ((rd_T39 l0 x13_1).f3), .bool ((rd_T39 l0 x13_1).f4), .bool ((rd_T39 l0 x13_1).f5), .slice A220_6 ((rd_T39 l0 x13_1).f6).length c220_6, .slice A220_7 ((rd_T39 l0 x13_1).f7).length c220_7] 39 (0, 0)) (by (with_reducible repeat (first | refine blk_drewN ?_ _ | refine blk_drew ?_ | refine blk_alloc ?_ _)); exact BK221.out) hb); have n1_ := Aside0.mk (below_step (by repeat (first | (with_reducible first | exact HB.out | apply below_alloc | apply pw_below_drewN | apply below_drew1 | refine below_set ?_ GE221.out) | exact HB.out)) hb); clear BK221; clear HB; have BK221 := n0_; have HB := n1_; clear n0_ n1_; (try clear hb); (try clear hb2); (try clear hk); (try clear hi)))
              go_roundg k1
              case measure => have := HK1.out; omega
              case rel => exact ⟨(t228), (wrap64 (x6_1 + (wrap64 (t227 + t229)))), (wrap64 (x13_1 + 1)), (by first | rfl | (simp; done) | (simp [*]; done)), (by first | rfl | (simp; done) | (simp [*]; done)), (by first | rfl | (simp; done) | (simp [*]; done)), H', ⟨by have := HK1.out; omega⟩, ⟨by repeat (first | (with_reducible first | exact HB.out | apply below_alloc | apply pw_below_drewN | apply below_drew1 | refine below_set ?_ GE221.out) | exact HB.out)⟩⟩
          · rw [if_neg c5] at H
            exact absurd H (by simp)
        · rw [if_neg c4] at H
          exact absurd H (by simp)
      · rw [if_neg c3] at H
        have c3b0 : decide (x13_1 < (l0.length : Int)) = false := decide_eq_false c3
        clear c3
        simp only [Option.some.injEq, Prod.mk.injEq] at H
        obtain ⟨rfl, rfl⟩ := H
        go_wp2
        go_ret2
        exact ⟨by first | rfl | (simp [errW_none, errW_some] <;> rfl) | (simp [*, errW_none, errW_some] <;> rfl), by repeat (first | (with_reducible first | exact HB.out | apply below_alloc | apply pw_below_drewN | apply below_drew1) | exact HB.out)⟩
end Go.Proofs.YtgdpojleejdfaaaDoor.Px
