import Derived.Test.YtgdpojleejdfaaaDoorRTPx0
namespace Go.Proofs.YtgdpojleejdfaaaDoor.Px
open Go.RowKit Go.Proofs.YtgdpojleejdfaaaDoorW.PrintWords Go.Proofs.YtgdpojleejdfaaaDoorW.PrintLast Go.Proofs.YtgdpojleejdfaaaDoorW.PrintMore
attribute [local go_sem] max2_int min2_int max_two min_two max_three min_three max_four min_four   -- for this text's walks alone
set_option linter.unusedVariables false
set_option linter.unusedSimpArgs false
mutual
def tmplpiperef12_Equal.l0 : Nat → List (S39) → List (S39) → Bool → Int → Option (Bool)
  | 0, _, _, _, _ => none
  | k + 1, x0, x1, x2, x7 => if x7 < (x0.length : Int) then (if 0 ≤ x7 then (if x7 < (x1.length : Int) then (if ((rd_T39 x0 x7).f0) = ((rd_T39 x1 x7).f0) then (if x2 = true then (if ((rd_T39 x0 x7).f1) = ((rd_T39 x1 x7).f1) then (if ((rd_T39 x0 x7).f2).toList = ((rd_T39 x1 x7).f2).toList then (if ((rd_T39 x0 x7).f3).toList = ((rd_T39 x1 x7).f3).toList then (if (((rd_T39 x0 x7).f4) != ((rd_T39 x1 x7).f4)) = true then (tmplpiperef12_Equal.j1 k x0 x1 x2 x7 true ((rd_T39 x0 x7).f0) ((rd_T39 x0 x7).f1) ((rd_T39 x0 x7).f2) ((rd_T39 x0 x7).f3) ((rd_T39 x0 x7).f4) ((rd_T39 x0 x7).f5) ((rd_T39 x0 x7).f6) ((rd_T39 x0 x7).f7) ((rd_T39 x1 x7).f0) ((rd_T39 x1 x7).f1) ((rd_T39 x1 x7).f2) ((rd_T39 x1 x7).f3) ((rd_T39 x1 x7).f4) ((rd_T39 x1 x7).f5) ((rd_T39 x1 x7).f6) ((rd_T39 x1 x7).f7)) else (tmplpiperef12_Equal.j1 k x0 x1 x2 x7 (((rd_T39 x0 x7).f5) != ((rd_T39 x1 x7).f5)) ((rd_T39 x0 x7).f0) ((rd_T39 x0 x7).f1) ((rd_T39 x0 x7).f2) ((rd_T39 x0 x7).f3) ((rd_T39 x0 x7).f4) ((rd_T39 x0 x7).f5) ((rd_T39 x0 x7).f6) ((rd_T39 x0 x7).f7) ((rd_T39 x1 x7).f0) ((rd_T39 x1 x7).f1) ((rd_T39 x1 x7).f2) ((rd_T39 x1 x7).f3) ((rd_T39 x1 x7).f4) ((rd_T39 x1 x7).f5) ((rd_T39 x1 x7).f6) ((rd_T39 x1 x7).f7))) else (tmplpiperef12_Equal.j1 k x0 x1 x2 x7 true ((rd_T39 x0 x7).f0) ((rd_T39 x0 x7).f1) ((rd_T39 x0 x7).f2) ((rd_T39 x0 x7).f3) ((rd_T39 x0 x7).f4) ((rd_T39 x0 x7).f5) ((rd_T39 x0 x7).f6) ((rd_T39 x0 x7).f7) ((rd_T39 x1 x7).f0) ((rd_T39 x1 x7).f1) ((rd_T39 x1 x7).f2) ((rd_T39 x1 x7).f3) ((rd_T39 x1 x7).f4) ((rd_T39 x1 x7).f5) ((rd_T39 x1 x7).f6) ((rd_T39 x1 x7).f7))) else (tmplpiperef12_Equal.j1 k x0 x1 x2 x7 true ((rd_T39 x0 x7).f0) ((rd_T39 x0 x7).f1) ((rd_T39 x0 x7).f2) ((rd_T39 x0 x7).f3) ((rd_T39 x0 x7).f4) ((rd_T39 x0 x7).f5) ((rd_T39 x0 x7).f6) ((rd_T39 x0 x7).f7) ((rd_T39 x1 x7).f0) ((rd_T39 x1 x7).f1) ((rd_T39 x1 x7).f2) ((rd_T39 x1 x7).f3) ((rd_T39 x1 x7).f4) ((rd_T39 x1 x7).f5) ((rd_T39 x1 x7).f6) ((rd_T39 x1 x7).f7))) else (tmplpiperef12_Equal.j1 k x0 x1 x2 x7 true ((rd_T39 x0 x7).f0) ((rd_T39 x0 x7).f1) ((rd_T39 x0 x7).f2) ((rd_T39 x0 x7).f3) ((rd_T39 x0 x7).f4) ((rd_T39 x0 x7).f5) ((rd_T39 x0 x7).f6) ((rd_T39 x0 x7).f7) ((rd_T39 x1 x7).f0) ((rd_T39 x1 x7).f1) ((rd_T39 x1 x7).f2) ((rd_T39 x1 x7).f3) ((rd_T39 x1 x7).f4) ((rd_T39 x1 x7).f5) ((rd_T39 x1 x7).f6) ((rd_T39 x1 x7).f7))) else (if ((rd_T39 x0 x7).f2).toList = ((rd_T39 x1 x7).f2).toList then (if ((rd_T39 x0 x7).f3).toList = ((rd_T39 x1 x7).f3).toList then (if (((rd_T39 x0 x7).f4) != ((rd_T39 x1 x7).f4)) = true then (tmplpiperef12_Equal.j1 k x0 x1 x2 x7 true ((rd_T39 x0 x7).f0) ((rd_T39 x0 x7).f1) ((rd_T39 x0 x7).f2) ((rd_T39 x0 x7).f3) ((rd_T39 x0 x7).f4) ((rd_T39 x0 x7).f5) ((rd_T39 x0 x7).f6) ((rd_T39 x0 x7).f7) ((rd_T39 x1 x7).f0) ((rd_T39 x1 x7).f1) ((rd_T39 x1 x7).f2) ((rd_T39 x1 x7).f3) ((rd_T39 x1 x7).f4) ((rd_T39 x1 x7).f5) ((rd_T39 x1 x7).f6) ((rd_T39 x1 x7).f7)) else (tmplpiperef12_Equal.j1 k x0 x1 x2 x7 (((rd_T39 x0 x7).f5) != ((rd_T39 x1 x7).f5)) ((rd_T39 x0 x7).f0) ((rd_T39 x0 x7).f1) ((rd_T39 x0 x7).f2) ((rd_T39 x0 x7).f3) ((rd_T39 x0 x7).f4) ((rd_T39 x0 x7).f5) ((rd_T39 x0 x7).f6) ((rd_T39 x0 x7).f7) ((rd_T39 x1 x7).f0) ((rd_T39 x1 x7).f1) ((rd_T39 x1 x7).f2) ((rd_T39 x1 x7).f3) ((rd_T39 x1 x7).f4) ((rd_T39 x1 x7).f5) ((rd_T39 x1 x7).f6) ((rd_T39 x1 x7).f7))) else (tmplpiperef12_Equal.j1 k x0 x1 x2 x7 true ((rd_T39 x0 x7).f0) ((rd_T39 x0 x7).f1) ((rd_T39 x0 x7).f2) ((rd_T39 x0 x7).f3) ((rd_T39 x0 x7).f4) ((rd_T39 x0 x7).f5) ((rd_T39 x0 x7).f6) ((rd_T39 x0 x7).f7) ((rd_T39 x1 x7).f0) ((rd_T39 x1 x7).f1) ((rd_T39 x1 x7).f2) ((rd_T39 x1 x7).f3) ((rd_T39 x1 x7).f4) ((rd_T39 x1 x7).f5) ((rd_T39 x1 x7).f6) ((rd_T39 x1 x7).f7))) else (tmplpiperef12_Equal.j1 k x0 x1 x2 x7 true ((rd_T39 x0 x7).f0) ((rd_T39 x0 x7).f1) ((rd_T39 x0 x7).f2) ((rd_T39 x0 x7).f3) ((rd_T39 x0 x7).f4) ((rd_T39 x0 x7).f5) ((rd_T39 x0 x7).f6) ((rd_T39 x0 x7).f7) ((rd_T39 x1 x7).f0) ((rd_T39 x1 x7).f1) ((rd_T39 x1 x7).f2) ((rd_T39 x1 x7).f3) ((rd_T39 x1 x7).f4) ((rd_T39 x1 x7).f5) ((rd_T39 x1 x7).f6) ((rd_T39 x1 x7).f7)))) else (tmplpiperef12_Equal.j1 k x0 x1 x2 x7 true ((rd_T39 x0 x7).f0) ((rd_T39 x0 x7).f1) ((rd_T39 x0 x7).f2) ((rd_T39 x0 x7).f3) ((rd_T39 x0 x7).f4) ((rd_T39 x0 x7).f5) ((rd_T39 x0 x7).f6) ((rd_T39 x0 x7).f7) ((rd_T39 x1 x7).f0) ((rd_T39 x1 x7).f1) ((rd_T39 x1 x7).f2) ((rd_T39 x1 x7).f3) ((rd_T39 x1 x7).f4) ((rd_T39 x1 x7).f5) ((rd_T39 x1 x7).f6) ((rd_T39 x1 x7).f7))) else (none)) else (none)) else (some true)
def tmplpiperef12_Equal.j1 : Nat → List (S39) → List (S39) → Bool → Int → Bool → Int → Int → ByteArray → ByteArray → Bool → Bool → List (S39) → List (S39) → Int → Int → ByteArray → ByteArray → Bool → Bool → List (S39) → List (S39) → Option (Bool)
  | 0, _, _, _, _, _, _, _, _, _, _, _, _, _, _, _, _, _, _, _, _, _ => none
  | k + 1, x0, x1, x2, x7, x71, x119000, x119001, x119002, x119003, x119004, x119005, x119006, x119007, x121000, x121001, x121002, x121003, x121004, x121005, x121006, x121007 => if x71 = true then (some false) else ((tmplpiperef12_Equal.f k x119006 x121006 x2).bind fun t121 => (if t121 = true then ((tmplpiperef12_Equal.f k x119007 x121007 x2).bind fun t122 => (if t122 = true then (tmplpiperef12_Equal.l0 k x0 x1 x2 (wrap64 (x7 + 1))) else (some false))) else (some false)))
def tmplpiperef12_Equal.f : Nat → List (S39) → List (S39) → Bool → Option (Bool)
  | 0, _, _, _ => none
  | k + 1, l0, l1, a2 => if (l0.length : Int) = (l1.length : Int) then (tmplpiperef12_Equal.l0 k l0 l1 a2 0) else (some false)
end
set_option maxHeartbeats 8000000 in
set_option maxRecDepth 100000 in
theorem tmplpiperef12_Equal.calls (k : Nat) : ∀ (A0 : Option Addr) (c0 : Nat) (l0 : List (S39)) (A1 : Option Addr) (c1 : Nat) (l1 : List (S39)) (a2 : Bool) (r : Bool) (w : World) (hr0 : Kd.C k39 w A0 l0.length l0) (hc0 : l0.length ≤ c0) (hr1 : Kd.C k39 w A1 l1.length l1) (hc1 : l1.length ≤ c1) (h : tmplpiperef12_Equal.f k l0 l1 a2 = some r),
    Calls Tryd.prog 21 #[.slice A0 l0.length c0, .slice A1 l1.length c1, .bool a2] w fun e w' => e = .returned (.bool r) ∧ Below w.heap.size w w' := by
  induction k using Nat.strongRecOn with
  | _ k ih =>
  intro A0 c0 l0 A1 c1 l1 a2 r w hr0 hc0 hr1 hc1 h
  cases k with
  | zero => exact absurd h (by simp [tmplpiperef12_Equal.f])
  | succ k =>
  simp only [tmplpiperef12_Equal.f] at h
  have hu39 := Tryd.underlying39
  have HR0 := Aside0.mk hr0
  have HC0 := Aside0.mk hc0
  clear hr0 hc0
  have HR1 := Aside0.mk hr1
  have HC1 := Aside0.mk hc1
  clear hr1 hc1
  have HB := Aside0.mk (Below.refl w.heap.size w)
  have H : (if (l0.length : Int) = (l1.length : Int) then (tmplpiperef12_Equal.l0 k l0 l1 a2 0) else (some false)) = some r := h
  clear h
  by_cases c4 : (l0.length : Int) = (l1.length : Int)
  · rw [if_pos c4] at H
    have c4b0 : ((l0.length : Int) == (l1.length : Int)) = true := beq_iff_eq.mpr c4
    have c4b1 : ((l0.length : Int) != (l1.length : Int)) = false := bne_eq_false_iff_eq.mpr c4
    have c4b2 : (l0.length == l1.length) = true := by first | simpa using c4 | (simp at c4 ⊢; omega)
    clear c4
    have H' := Aside0.mk H
    clear H
    go_enter Tryd.func21, Tryd.ntmps21
    go_wp2
    go_loopg [7] k (fun kq v7 w' => ∃ (x7_1 : Int), v7 = .int .i64 x7_1 ∧ Aside0 (tmplpiperef12_Equal.l0 kq l0 l1 a2 x7_1 = some r) ∧ Aside0 (kq ≤ k) ∧ Aside0 (Below w.heap.size w w'))
    case atStart => exact ⟨(0), (by first | rfl | (simp; done) | (simp [*]; done)), H', ⟨Nat.le_refl _⟩, ⟨by repeat (first | (with_reducible first | exact HB.out | apply below_alloc | apply pw_below_drewN | apply below_drew1) | exact HB.out)⟩⟩
    case round =>
      clear H'
      try clear c1
      try clear c2
      try clear p2
      try clear c4
      try clear c4b0
      try clear c4b1
      try clear c4b2
      obtain ⟨x7_1, rfl, HA, HK1, HB⟩ := hrel
      cases gk with
      | zero => exact absurd HA.out (by simp [tmplpiperef12_Equal.l0])
      | succ k1 =>
        have H := HA.out
        clear HA
        simp only [tmplpiperef12_Equal.l0] at H
        by_cases c5 : x7_1 < (l0.length : Int)
        · rw [if_pos c5] at H
          have c5b0 : decide (x7_1 < (l0.length : Int)) = true := decide_eq_true c5
          clear c5
          by_cases c6 : 0 ≤ x7_1
          · rw [if_pos c6] at H
            have c6b0 : decide (0 ≤ x7_1) = true := decide_eq_true c6
            clear c6
            by_cases c7 : x7_1 < (l1.length : Int)
            · rw [if_pos c7] at H
              have c7b0 : decide (x7_1 < (l1.length : Int)) = true := decide_eq_true c7
              clear c7
              have HC8 := Aside0.mk H
              clear H
              have p117 : 0 ≤ (x7_1 : Int) := of_decide_eq_true (by first | (with_reducible assumption) | assumption)
              have q117 : x7_1 < (l0.length : Int) := of_decide_eq_true (by first | (with_reducible assumption) | assumption)
              obtain ⟨ad117, A117_6, c117_6, A117_7, c117_7, e117, hx117_0, hx117_1, hx117_2, hx117_3, hx117_4, hx117_5, hx117_6, hx117_7, hl117_6, hi117_6, hl117_7, hi117_7⟩ := at_T39 HR0.out x7_1 p117 q117
              cases e117
              replace hx117_0 := (HB.out.cell (World.block_lt_of_cell? w _ hx117_0)).trans hx117_0
              replace hx117_1 := (HB.out.cell (World.block_lt_of_cell? w _ hx117_1)).trans hx117_1
              replace hx117_2 := (HB.out.cell (World.block_lt_of_cell? w _ hx117_2)).trans hx117_2
              replace hx117_3 := (HB.out.cell (World.block_lt_of_cell? w _ hx117_3)).trans hx117_3
              replace hx117_4 := (HB.out.cell (World.block_lt_of_cell? w _ hx117_4)).trans hx117_4
              replace hx117_5 := (HB.out.cell (World.block_lt_of_cell? w _ hx117_5)).trans hx117_5
              replace hx117_6 := (HB.out.cell (World.block_lt_of_cell? w _ hx117_6)).trans hx117_6
              replace hx117_7 := (HB.out.cell (World.block_lt_of_cell? w _ hx117_7)).trans hx117_7
              have HR117_6 := Aside0.mk hi117_6
              have HC117_6 := Aside0.mk hl117_6
              clear hi117_6 hl117_6
              have HR117_7 := Aside0.mk hi117_7
              have HC117_7 := Aside0.mk hl117_7
              clear hi117_7 hl117_7
              replace p117 := eq_true p117
              replace q117 := eq_true q117
              go_upto_region 8 with (first | ((with_reducible refine gate_dst (N := 8) rfl ?_); refine box_event ?hg (N := 8) ?hd (cs := #[.int .i64 0, .int .i64 0, .string (⟨#[]⟩ : ByteArray), .string (⟨#[]⟩ : ByteArray), .bool false, .bool false, .slice none 0 0, .slice none 0 0]) (t := 39) ?hr ?_; (case hd => rfl); (case hg => rfl); (case hr => first | (go_simp; done) | (go_simp; rfl)); intro gb118 hg w9 hbox hb; have n0_ := Aside0.mk (below_step (by repeat (first | (with_reducible first | exact HB.out | apply below_alloc | apply pw_below_drewN | apply below_drew1) | exact HB.out)) hb); have n1_ := Aside0.mk (hbox); have n2_ := Aside0.mk ((by rw [hg]; exact (below_size (by repeat (first | (with_reducible first | exact HB.out | apply below_alloc | apply pw_below_drewN | apply below_drew1) | exact HB.out))) : w.heap.size ≤ gb118)); have n3_ := Aside0.mk ((by rw [hg]; exact (below_size (by repeat (first | (with_reducible first | exact HB.out | apply below_alloc | apply pw_below_drewN | apply below_drew1) | exact HB.out))) : w.heap.size ≤ gb118)); clear HB; have HB := n0_; have BK118 := n1_; have GW118 := n2_; have GE118 := n3_; clear n0_ n1_ n2_ n3_; clear hb hbox hg; have hcz10_0 : w9.cell? ⟨gb118, 0, none⟩ = some (.int .i64 0) := (blk_cell BK118.out 0).trans rfl; have hcz10_1 : w9.cell? ⟨gb118, 1, none⟩ = some (.int .i64 0) := (blk_cell BK118.out 1).trans rfl; have hcz10_2 : w9.cell? ⟨gb118, 2, none⟩ = some (.string (⟨#[]⟩ : ByteArray)) := (blk_cell BK118.out 2).trans rfl; have hcz10_3 : w9.cell? ⟨gb118, 3, none⟩ = some (.string (⟨#[]⟩ : ByteArray)) := (blk_cell BK118.out 3).trans rfl; have hcz10_4 : w9.cell? ⟨gb118, 4, none⟩ = some (.bool false) := (blk_cell BK118.out 4).trans rfl; have hcz10_5 : w9.cell? ⟨gb118, 5, none⟩ = some (.bool false) := (blk_cell BK118.out 5).trans rfl; have hcz10_6 : w9.cell? ⟨gb118, 6, none⟩ = some (.slice none 0 0) := (blk_cell BK118.out 6).trans rfl; have hcz10_7 : w9.cell? ⟨gb118, 7, none⟩ = some (.slice none 0 0) := (blk_cell BK118.out 7).trans rfl; have hfz10_0 := blk_frozen BK118.out 0; have hfz10_1 := blk_frozen BK118.out 1; have hfz10_2 := blk_frozen BK118.out 2; have hfz10_3 := blk_frozen BK118.out 3; have hfz10_4 := blk_frozen BK118.out 4; have hfz10_5 := blk_frozen BK118.out 5; have hfz10_6 := blk_frozen BK118.out 6; have hfz10_7 := blk_frozen BK118.out 7; have p119 : 0 ≤ (x7_1 : Int) := of_decide_eq_true (by first | (with_reducible assumption) | assumption); have q119 : x7_1 < (l1.length : Int) := of_decide_eq_true (by first | (with_reducible assumption) | assumption); obtain ⟨ad119, A119_6, c119_6, A119_7, c119_7, e119, hx119_0, hx119_1, hx119_2, hx119_3, hx119_4, hx119_5, hx119_6, hx119_7, hl119_6, hi119_6, hl119_7, hi119_7⟩ := at_T39 HR1.out x7_1 p119 q119; cases e119; have hn119_0 : ad119.block ≠ gb118 := Nat.ne_of_lt (Nat.lt_of_lt_of_le (by have := World.block_lt_of_cell? _ _ hx119_0; first | rwa [add_block] at this | exact this) GW118.out); have hn119_1 : ad119.block ≠ gb118 := Nat.ne_of_lt (Nat.lt_of_lt_of_le (by have := World.block_lt_of_cell? _ _ hx119_0; first | rwa [add_block] at this | exact this) GW118.out); have hn119_2 : ad119.block ≠ gb118 := Nat.ne_of_lt (Nat.lt_of_lt_of_le (by have := World.block_lt_of_cell? _ _ hx119_0; first | rwa [add_block] at this | exact this) GW118.out); have hn119_3 : ad119.block ≠ gb118 := Nat.ne_of_lt (Nat.lt_of_lt_of_le (by have := World.block_lt_of_cell? _ _ hx119_0; first | rwa [add_block] at this | exact this) GW118.out); have hn119_4 : ad119.block ≠ gb118 := Nat.ne_of_lt (Nat.lt_of_lt_of_le (by have := World.block_lt_of_cell? _ _ hx119_0; first | rwa [add_block] at this | exact this) GW118.out); have hn119_5 : ad119.block ≠ gb118 := Nat.ne_of_lt (Nat.lt_of_lt_of_le (by have := World.block_lt_of_cell? _ _ hx119_0; first | rwa [add_block] at this | exact this) GW118.out); have hn119_6 : ad119.block ≠ gb118 := Nat.ne_of_lt (Nat.lt_of_lt_of_le (by have := World.block_lt_of_cell? _ _ hx119_0; first | rwa [add_block] at this | exact this) GW118.out); have hn119_7 : ad119.block ≠ gb118 := Nat.ne_of_lt (Nat.lt_of_lt_of_le (by have := World.block_lt_of_cell? _ _ hx119_0; first | rwa [add_block] at this | exact this) GW118.out); replace hx119_0 := (HB.out.cell (World.block_lt_of_cell? w _ hx119_0)).trans hx119_0; replace hx119_1 := (HB.out.cell (World.block_lt_of_cell? w _ hx119_1)).trans hx119_1; replace hx119_2 := (HB.out.cell (World.block_lt_of_cell? w _ hx119_2)).trans hx119_2; replace hx119_3 := (HB.out.cell (World.block_lt_of_cell? w _ hx119_3)).trans hx119_3; replace hx119_4 := (HB.out.cell (World.block_lt_of_cell? w _ hx119_4)).trans hx119_4; replace hx119_5 := (HB.out.cell (World.block_lt_of_cell? w _ hx119_5)).trans hx119_5; replace hx119_6 := (HB.out.cell (World.block_lt_of_cell? w _ hx119_6)).trans hx119_6; replace hx119_7 := (HB.out.cell (World.block_lt_of_cell? w _ hx119_7)).trans hx119_7; have HR119_6 := Aside0.mk hi119_6; have HC119_6 := Aside0.mk hl119_6; clear hi119_6 hl119_6; have HR119_7 := Aside0.mk hi119_7; have HC119_7 := Aside0.mk hl119_7; clear hi119_7 hl119_7; replace hx119_0 := (cell_far (p := ⟨gb118, 0, none⟩) (by first | (rw [add_block]; exact hn119_0) | (show (Addr.add _ _).block ≠ _; rw [add_block]; exact hn119_0) | exact hn119_0) (.int .i64 ((rd_T39 l0 x7_1).f0))).trans hx119_0; replace hx119_1 := (cell_far (p := ⟨gb118, 0, none⟩) (by first | (rw [add_block]; exact hn119_0) | (show (Addr.add _ _).block ≠ _; rw [add_block]; exact hn119_0) | exact hn119_0) (.int .i64 ((rd_T39 l0 x7_1).f0))).trans hx119_1; replace hx119_2 := (cell_far (p := ⟨gb118, 0, none⟩) (by first | (rw [add_block]; exact hn119_0) | (show (Addr.add _ _).block ≠ _; rw [add_block]; exact hn119_0) | exact hn119_0) (.int .i64 ((rd_T39 l0 x7_1).f0))).trans hx119_2; replace hx119_3 := (cell_far (p := ⟨gb118, 0, none⟩) (by first | (rw [add_block]; exact hn119_0) | (show (Addr.add _ _).block ≠ _; rw [add_block]; exact hn119_0) | exact hn119_0) (.int .i64 ((rd_T39 l0 x7_1).f0))).trans hx119_3; replace hx119_4 := (cell_far (p := ⟨gb118, 0, none⟩) (by first | (rw [add_block]; exact hn119_0) | (show (Addr.add _ _).block ≠ _; rw [add_block]; exact hn119_0) | exact hn119_0) (.int .i64 ((rd_T39 l0 x7_1).f0))).trans hx119_4; replace hx119_5 := (cell_far (p := ⟨gb118, 0, none⟩) (by first | (rw [add_block]; exact hn119_0) | (show (Addr.add _ _).block ≠ _; rw [add_block]; exact hn119_0) | exact hn119_0) (.int .i64 ((rd_T39 l0 x7_1).f0))).trans hx119_5; replace hx119_6 := (cell_far (p := ⟨gb118, 0, none⟩) (by first | (rw [add_block]; exact hn119_0) | (show (Addr.add _ _).block ≠ _; rw [add_block]; exact hn119_0) | exact hn119_0) (.int .i64 ((rd_T39 l0 x7_1).f0))).trans hx119_6; replace hx119_7 := (cell_far (p := ⟨gb118, 0, none⟩) (by first | (rw [add_block]; exact hn119_0) | (show (Addr.add _ _).block ≠ _; rw [add_block]; exact hn119_0) | exact hn119_0) (.int .i64 ((rd_T39 l0 x7_1).f0))).trans hx119_7; replace hx119_0 := (cell_far (p := ⟨gb118, 1, none⟩) (by first | (rw [add_block]; exact hn119_1) | (show (Addr.add _ _).block ≠ _; rw [add_block]; exact hn119_1) | exact hn119_1) (.int .i64 ((rd_T39 l0 x7_1).f1))).trans hx119_0; replace hx119_1 := (cell_far (p := ⟨gb118, 1, none⟩) (by first | (rw [add_block]; exact hn119_1) | (show (Addr.add _ _).block ≠ _; rw [add_block]; exact hn119_1) | exact hn119_1) (.int .i64 ((rd_T39 l0 x7_1).f1))).trans hx119_1; replace hx119_2 := (cell_far (p := ⟨gb118, 1, none⟩) (by first | (rw [add_block]; exact hn119_1) | (show (Addr.add _ _).block ≠ _; rw [add_block]; exact hn119_1) | exact hn119_1) (.int .i64 ((rd_T39 l0 x7_1).f1))).trans hx119_2; replace hx119_3 := (cell_far (p := ⟨gb118, 1, none⟩) (by first | (rw [add_block]; exact hn119_1) | (show (Addr.add _ _).block ≠ _; rw [add_block]; exact hn119_1) | exact hn119_1) (.int .i64 ((rd_T39 l0 x7_1).f1))).trans hx119_3; replace hx119_4 := (cell_far (p := ⟨gb118, 1, none⟩) (by first | (rw [add_block]; exact hn119_1) | (show (Addr.add _ _).block ≠ _; rw [add_block]; exact hn119_1) | exact hn119_1) (.int .i64 ((rd_T39 l0 x7_1).f1))).trans hx119_4; replace hx119_5 := (cell_far (p := ⟨gb118, 1, none⟩) (by first | (rw [add_block]; exact hn119_1) | (show (Addr.add _ _).block ≠ _; rw [add_block]; exact hn119_1) | exact hn119_1) (.int .i64 ((rd_T39 l0 x7_1).f1))).trans hx119_5; replace hx119_6 := (cell_far (p := ⟨gb118, 1, none⟩) (by first | (rw [add_block]; exact hn119_1) | (show (Addr.add _ _).block ≠ _; rw [add_block]; exact hn119_1) | exact hn119_1) (.int .i64 ((rd_T39 l0 x7_1).f1))).trans hx119_6; replace hx119_7 := (cell_far (p := ⟨gb118, 1, none⟩) (by first | (rw [add_block]; exact hn119_1) | (show (Addr.add _ _).block ≠ _; rw [add_block]; exact hn119_1) | exact hn119_1) (.int .i64 ((rd_T39 l0 x7_1).f1))).trans hx119_7; replace hx119_0 := (cell_far (p := ⟨gb118, 2, none⟩) (by first | (rw [add_block]; exact hn119_2) | (show (Addr.add _ _).block ≠ _; rw [add_block]; exact hn119_2) | exact hn119_2) (.string ((rd_T39 l0 x7_1).f2))).trans hx119_0; replace hx119_1 := (cell_far (p := ⟨gb118, 2, none⟩) (by first | (rw [add_block]; exact hn119_2) | (show (Addr.add _ _).block ≠ _; rw [add_block]; exact hn119_2) | exact hn119_2) (.string ((rd_T39 l0 x7_1).f2))).trans hx119_1; replace hx119_2 := (cell_far (p := ⟨gb118, 2, none⟩) (by first | (rw [add_block]; exact hn119_2) | (show (Addr.add _ _).block ≠ _; rw [add_block]; exact hn119_2) | exact hn119_2) (.string ((rd_T39 l0 x7_1).f2))).trans hx119_2; replace hx119_3 := (cell_far (p := ⟨gb118, 2, none⟩) (by first | (rw [add_block]; exact hn119_2) | (show (Addr.add _ _).block ≠ _; rw [add_block]; exact hn119_2) | exact hn119_2) (.string ((rd_T39 l0 x7_1).f2))).trans hx119_3; replace hx119_4 := (cell_far (p := ⟨gb118, 2, none⟩) (by first | (rw [add_block]; exact hn119_2) | (show (Addr.add _ _).block ≠ _; rw [add_block]; exact hn119_2) | exact hn119_2) (.string ((rd_T39 l0 x7_1).f2))).trans hx119_4; replace hx119_5 := (cell_far (p := ⟨gb118, 2, none⟩) (by first | (rw [add_block]; exact hn119_2) | (show (Addr.add _ _).block ≠ _; rw [add_block]; exact hn119_2) | exact hn119_2) (.string ((rd_T39 l0 x7_1).f2))).trans hx119_5; replace hx119_6 := (cell_far (p := ⟨gb118, 2, none⟩) (by first | (rw [add_block]; exact hn119_2) | (show (Addr.add _ _).block ≠ _; rw [add_block]; exact hn119_2) | exact hn119_2) (.string ((rd_T39 l0 x7_1).f2))).trans hx119_6; replace hx119_7 := (cell_far (p := ⟨gb118, 2, none⟩) (by first | (rw [add_block]; exact hn119_2) | (show (Addr.add _ _).block ≠ _; rw [add_block]; exact hn119_2) | exact hn119_2) (.string ((rd_T39 l0 x7_1).f2))).trans hx119_7; replace hx119_0 := (cell_far (p := ⟨gb118, 3, none⟩) (by first | (rw [add_block]; exact hn119_3) | (show (Addr.add _ _).block ≠ _; rw [add_block]; exact hn119_3) | exact hn119_3) (.string ((rd_T39 l0 x7_1).f3))).trans hx119_0; replace hx119_1 := (cell_far (p := ⟨gb118, 3, none⟩) (by first | (rw [add_block]; exact hn119_3) | (show (Addr.add _ _).block ≠ _; rw [add_block]; exact hn119_3) | exact hn119_3) (.string ((rd_T39 l0 x7_1).f3))).trans hx119_1; replace hx119_2 := (cell_far (p := ⟨gb118, 3, none⟩) (by first | (rw [add_block]; exact hn119_3) | (show (Addr.add _ _).block ≠ _; rw [add_block]; exact hn119_3) | exact hn119_3) (.string ((rd_T39 l0 x7_1).f3))).trans hx119_2; replace hx119_3 := (cell_far (p := ⟨gb118, 3, none⟩) (by first | (rw [add_block]; exact hn119_3) | (show (Addr.add _ _).block ≠ _; rw [add_block]; exact hn119_3) | exact hn119_3) (.string ((rd_T39 l0 x7_1).f3))).trans hx119_3; replace hx119_4 := (cell_far (p := ⟨gb118, 3, none⟩) (by first | (rw [add_block]; exact hn119_3) | (show (Addr.add _ _).block ≠ _; rw [add_block]; exact hn119_3) | exact hn119_3) (.string ((rd_T39 l0 x7_1).f3))).trans hx119_4; replace hx119_5 := (cell_far (p := ⟨gb118, 3, none⟩) (by first | (rw [add_block]; exact hn119_3) | (show (Addr.add _ _).block ≠ _; rw [add_block]; exact hn119_3) | exact hn119_3) (.string ((rd_T39 l0 x7_1).f3))).trans hx119_5; replace hx119_6 := (cell_far (p := ⟨gb118, 3, none⟩) (by first | (rw [add_block]; exact hn119_3) | (show (Addr.add _ _).block ≠ _; rw [add_block]; exact hn119_3) | exact hn119_3) (.string ((rd_T39 l0 x7_1).f3))).trans hx119_6; replace hx119_7 := (cell_far (p := ⟨gb118, 3, none⟩) (by first | (rw [add_block]; exact hn119_3) | (show (Addr.add _ _).block ≠ _; rw [add_block]; exact hn119_3) | exact hn119_3) (.string ((rd_T39 l0 x7_1).f3))).trans hx119_7; replace hx119_0 := (cell_far (p := ⟨gb118, 4, none⟩) (by first | (rw [add_block]; exact hn119_4) | (show (Addr.add _ _).block ≠ _; rw [add_block]; exact hn119_4) | exact hn119_4) (.bool ((rd_T39 l0 x7_1).f4))).trans hx119_0; replace hx119_1 := (cell_far (p := ⟨gb118, 4, none⟩) (by first | (rw [add_block]; exact hn119_4) | (show (Addr.add _ _).block ≠ _; rw [add_block]; exact hn119_4) | exact hn119_4) (.bool ((rd_T39 l0 x7_1).f4))).trans hx119_1; replace hx119_2 := (cell_far (p := ⟨gb118, 4, none⟩) (by first | (rw [add_block]; exact hn119_4) | (show (Addr.add _ _).block ≠ _; rw [add_block]; exact hn119_4) | exact hn119_4) (.bool ((rd_T39 l0 x7_1).f4))).trans hx119_2; replace hx119_3 := (cell_far (p := ⟨gb118, 4, none⟩) (by first | (rw [add_block]; exact hn119_4) | (show (Addr.add _ _).block ≠ _; rw [add_block]; exact hn119_4) | exact hn119_4) (.bool ((rd_T39 l0 x7_1).f4))).trans hx119_3; replace hx119_4 := (cell_far (p := ⟨gb118, 4, none⟩) (by first | (rw [add_block]; exact hn119_4) | (show (Addr.add _ _).block ≠ _; rw [add_block]; exact hn119_4) | exact hn119_4) (.bool ((rd_T39 l0 x7_1).f4))).trans hx119_4; replace hx119_5 := (cell_far (p := ⟨gb118, 4, none⟩) (by first | (rw [add_block]; exact hn119_4) | (show (Addr.add _ _).block ≠ _; rw [add_block]; exact hn119_4) | exact hn119_4) (.bool ((rd_T39 l0 x7_1).f4))).trans hx119_5; replace hx119_6 := (cell_far (p := ⟨gb118, 4, none⟩) (by first | (rw [add_block]; exact hn119_4) | (show (Addr.add _ _).block ≠ _; rw [add_block]; exact hn119_4) | exact hn119_4) (.bool ((rd_T39 l0 x7_1).f4))).trans hx119_6; replace hx119_7 := (cell_far (p := ⟨gb118, 4, none⟩) (by first | (rw [add_block]; exact hn119_4) | (show (Addr.add _ _).block ≠ _; rw [add_block]; exact hn119_4) | exact hn119_4) (.bool ((rd_T39 l0 x7_1).f4))).trans hx119_7; replace hx119_0 := (cell_far (p := ⟨gb118, 5, none⟩) (by first | (rw [add_block]; exact hn119_5) | (show (Addr.add _ _).block ≠ _; rw [add_block]; exact hn119_5) | exact hn119_5) (.bool ((rd_T39 l0 x7_1).f5))).trans hx119_0; replace hx119_1 := (cell_far (p := ⟨gb118, 5, none⟩) (by first | (rw [add_block]; exact hn119_5) | (show (Addr.add _ _).block ≠ _; rw [add_block]; exact hn119_5) | exact hn119_5) (.bool ((rd_T39 l0 x7_1).f5))).trans hx119_1; replace hx119_2 := (cell_far (p := ⟨gb118, 5, none⟩) (by first | (rw [add_block]; exact hn119_5) | (show (Addr.add _ _).block ≠ _; rw [add_block]; exact hn119_5) | exact hn119_5) (.bool ((rd_T39 l0 x7_1).f5))).trans hx119_2; replace hx119_3 := (cell_far (p := ⟨gb118, 5, none⟩) (by first | (rw [add_block]; exact hn119_5) | (show (Addr.add _ _).block ≠ _; rw [add_block]; exact hn119_5) | exact hn119_5) (.bool ((rd_T39 l0 x7_1).f5))).trans hx119_3; replace hx119_4 := (cell_far (p := ⟨gb118, 5, none⟩) (by first | (rw [add_block]; exact hn119_5) | (show (Addr.add _ _).block ≠ _; rw [add_block]; exact hn119_5) | exact hn119_5) (.bool ((rd_T39 l0 x7_1).f5))).trans hx119_4; replace hx119_5 := (cell_far (p := ⟨gb118, 5, none⟩) (by first | (rw [add_block]; exact hn119_5) | (show (Addr.add _ _).block ≠ _; rw [add_block]; exact hn119_5) | exact hn119_5) (.bool ((rd_T39 l0 x7_1).f5))).trans hx119_5; replace hx119_6 := (cell_far (p := ⟨gb118, 5, none⟩) (by first | (rw [add_block]; exact hn119_5) | (show (Addr.add _ _).block ≠ _; rw [add_block]; exact hn119_5) | exact hn119_5) (.bool ((rd_T39 l0 x7_1).f5))).trans hx119_6; replace hx119_7 := (cell_far (p := ⟨gb118, 5, none⟩) (by first | (rw [add_block]; exact hn119_5) | (show (Addr.add _ _).block ≠ _; rw [add_block]; exact hn119_5) | exact hn119_5) (.bool ((rd_T39 l0 x7_1).f5))).trans hx119_7; replace hx119_0 := (cell_far (p := ⟨gb118, 6, none⟩) (by first | (rw [add_block]; exact hn119_6) | (show (Addr.add _ _).block ≠ _; rw [add_block]; exact hn119_6) | exact hn119_6) (.slice A117_6 ((rd_T39 l0 x7_1).f6).length c117_6)).trans hx119_0; replace hx119_1 := (cell_far (p := ⟨gb118, 6, none⟩) (by first | (rw [add_block]; exact hn119_6) | (show (Addr.add _ _).block ≠ _; rw [add_block]; exact hn119_6) | exact hn119_6) (.slice A117_6 ((rd_T39 l0 x7_1).f6).length c117_6)).trans hx119_1; replace hx119_2 := (cell_far (p := ⟨gb118, 6, none⟩) (by first | (rw [add_block]; exact hn119_6) | (show (Addr.add _ _).block ≠ _; rw [add_block]; exact hn119_6) | exact hn119_6) (.slice A117_6 ((rd_T39 l0 x7_1).f6).length c117_6)).trans hx119_2; replace hx119_3 := (cell_far (p := ⟨gb118, 6, none⟩) (by first | (rw [add_block]; exact hn119_6) | (show (Addr.add _ _).block ≠ _; rw [add_block]; exact hn119_6) | exact hn119_6) (.slice A117_6 ((rd_T39 l0 x7_1).f6).length c117_6)).trans hx119_3; replace hx119_4 := (cell_far (p := ⟨gb118, 6, none⟩) (by first | (rw [add_block]; exact hn119_6) | (show (Addr.add _ _).block ≠ _; rw [add_block]; exact hn119_6) | exact hn119_6) (.slice A117_6 ((rd_T39 l0 x7_1).f6).length c117_6)).trans hx119_4; replace hx119_5 := (cell_far (p := ⟨gb118, 6, none⟩) (by first | (rw [add_block]; exact hn119_6) | (show (Addr.add _ _).block ≠ _; rw [add_block]; exact hn119_6) | exact hn119_6) (.slice A117_6 ((rd_T39 l0 x7_1).f6).length c117_6)).trans hx119_5; replace hx119_6 := (cell_far (p := ⟨gb118, 6, none⟩) (by first | (rw [add_block]; exact hn119_6) | (show (Addr.add _ _).block ≠ _; rw [add_block]; exact hn119_6) | exact hn119_6) (.slice A117_6 ((rd_T39 l0 x7_1).f6).length c117_6)).trans hx119_6; replace hx119_7 := (cell_far (p := ⟨gb118, 6, none⟩) (by first | (rw [add_block]; exact hn119_6) | (show (Addr.add _ _).block ≠ _; rw [add_block]; exact hn119_6) | exact hn119_6) (.slice A117_6 ((rd_T39 l0 x7_1).f6).length c117_6)).trans hx119_7; replace hx119_0 := (cell_far (p := ⟨gb118, 7, none⟩) (by first | (rw [add_block]; exact hn119_7) | (show (Addr.add _ _).block ≠ _; rw [add_block]; exact hn119_7) | exact hn119_7) (.slice A117_7 ((rd_T39 l0 x7_1).f7).length c117_7)).trans hx119_0; replace hx119_1 := (cell_far (p := ⟨gb118, 7, none⟩) (by first | (rw [add_block]; exact hn119_7) | (show (Addr.add _ _).block ≠ _; rw [add_block]; exact hn119_7) | exact hn119_7) (.slice A117_7 ((rd_T39 l0 x7_1).f7).length c117_7)).trans hx119_1; replace hx119_2 := (cell_far (p := ⟨gb118, 7, none⟩) (by first | (rw [add_block]; exact hn119_7) | (show (Addr.add _ _).block ≠ _; rw [add_block]; exact hn119_7) | exact hn119_7) (.slice A117_7 ((rd_T39 l0 x7_1).f7).length c117_7)).trans hx119_2; replace hx119_3 := (cell_far (p := ⟨gb118, 7, none⟩) (by first | (rw [add_block]; exact hn119_7) | (show (Addr.add _ _).block ≠ _; rw [add_block]; exact hn119_7) | exact hn119_7) (.slice A117_7 ((rd_T39 l0 x7_1).f7).length c117_7)).trans hx119_3; replace hx119_4 := (cell_far (p := ⟨gb118, 7, none⟩) (by first | (rw [add_block]; exact hn119_7) | (show (Addr.add _ _).block ≠ _; rw [add_block]; exact hn119_7) | exact hn119_7) (.slice A117_7 ((rd_T39 l0 x7_1).f7).length c117_7)).trans hx119_4; replace hx119_5 := (cell_far (p := ⟨gb118, 7, none⟩) (by first | (rw [add_block]; exact hn119_7) | (show (Addr.add _ _).block ≠ _; rw [add_block]; exact hn119_7) | exact hn119_7) (.slice A117_7 ((rd_T39 l0 x7_1).f7).length c117_7)).trans hx119_5; replace hx119_6 := (cell_far (p := ⟨gb118, 7, none⟩) (by first | (rw [add_block]; exact hn119_7) | (show (Addr.add _ _).block ≠ _; rw [add_block]; exact hn119_7) | exact hn119_7) (.slice A117_7 ((rd_T39 l0 x7_1).f7).length c117_7)).trans hx119_6; replace hx119_7 := (cell_far (p := ⟨gb118, 7, none⟩) (by first | (rw [add_block]; exact hn119_7) | (show (Addr.add _ _).block ≠ _; rw [add_block]; exact hn119_7) | exact hn119_7) (.slice A117_7 ((rd_T39 l0 x7_1).f7).length c117_7)).trans hx119_7; clear hn119_0; clear hn119_1; clear hn119_2; clear hn119_3; clear hn119_4; clear hn119_5; clear hn119_6; clear hn119_7; replace p119 := eq_true p119; replace q119 := eq_true q119) | ((with_reducible refine gate_dst (N := 9) rfl ?_); refine box_event ?hg (N := 9) ?hd (cs := #[.int .i64 0, .int .i64 0, .string (⟨#[]⟩ : ByteArray), .string (⟨#[]⟩ : ByteArray), .bool false, .bool false, .slice none 0 0, .slice none 0 0]) (t := 39) ?hr ?_; (case hd => rfl); (case hg => rfl); (case hr => first | (go_simp; done) | (go_simp; rfl)); intro gb120 hg w11 hbox hb; have n0_ := Aside0.mk (blk_below (g := gb118) (o := .cells #[.int .i64 ((rd_T39 l0 x7_1).f0), .int .i64 ((rd_T39 l0 x7_1).f1), .string ((rd_T39 l0 x7_1).f2), .string ((rd_T39 l0 x7_1).f3), .bool ((rd_T39 l0 x7_1).f4), .bool ((rd_T39 l0 x7_1).f5), .slice A117_6 ((rd_T39 l0 x7_1).f6).length c117_6, .slice A117_7 ((rd_T39 l0 x7_1).f7).length c117_7] 39 (0, 0)) (by (with_reducible repeat (first | refine blk_drewN ?_ _ | refine blk_drew ?_ | refine blk_alloc ?_ _)); refine blk_put (cs := #[.int .i64 ((rd_T39 l0 x7_1).f0), .int .i64 ((rd_T39 l0 x7_1).f1), .string ((rd_T39 l0 x7_1).f2), .string ((rd_T39 l0 x7_1).f3), .bool ((rd_T39 l0 x7_1).f4), .bool ((rd_T39 l0 x7_1).f5), .slice A117_6 ((rd_T39 l0 x7_1).f6).length c117_6, .slice none 0 0]) ?_ 7 _ rfl; (with_reducible repeat (first | refine blk_drewN ?_ _ | refine blk_drew ?_ | refine blk_alloc ?_ _)); refine blk_put (cs := #[.int .i64 ((rd_T39 l0 x7_1).f0), .int .i64 ((rd_T39 l0 x7_1).f1), .string ((rd_T39 l0 x7_1).f2), .string ((rd_T39 l0 x7_1).f3), .bool ((rd_T39 l0 x7_1).f4), .bool ((rd_T39 l0 x7_1).f5), .slice none 0 0, .slice none 0 0]) ?_ 6 _ rfl; (with_reducible repeat (first | refine blk_drewN ?_ _ | refine blk_drew ?_ | refine blk_alloc ?_ _)); refine blk_put (cs := #[.int .i64 ((rd_T39 l0 x7_1).f0), .int .i64 ((rd_T39 l0 x7_1).f1), .string ((rd_T39 l0 x7_1).f2), .string ((rd_T39 l0 x7_1).f3), .bool ((rd_T39 l0 x7_1).f4), .bool false, .slice none 0 0, .slice none 0 0]) ?_ 5 _ rfl; (with_reducible repeat (first | refine blk_drewN ?_ _ | refine blk_drew ?_ | refine blk_alloc ?_ _)); refine blk_put (cs := #[.int .i64 ((rd_T39 l0 x7_1).f0), .int .i64 ((rd_T39 l0 x7_1).f1), .string ((rd_T39 l0 x7_1).f2), .string ((rd_T39 l0 x7_1).f3), .bool false, .bool false, .slice none 0 0, .slice none 0 0]) ?_ 4 _ rfl; (with_reducible repeat (first | refine blk_drewN ?_ _ | refine blk_drew ?_ | refine blk_alloc ?_ _)); refine blk_put (cs := #[.int .i64 ((rd_T39 l0 x7_1).f0), .int .i64 ((rd_T39 l0 x7_1).f1), .string ((rd_T39 l0 x7_1).f2), .string (⟨#[]⟩ : ByteArray), .bool false, .bool false, .slice none 0 0, .slice none 0 0]) ?_ 3 _ rfl; (with_reducible repeat (first | refine blk_drewN ?_ _ | refine blk_drew ?_ | refine blk_alloc ?_ _)); refine blk_put (cs := #[.int .i64 ((rd_T39 l0 x7_1).f0), .int .i64 ((rd_T39 l0 x7_1).f1), .string (⟨#[]⟩ : ByteArray), .string (⟨#[]⟩ : ByteArray), .bool false, .bool false, .slice none 0 0, .slice none 0 0]) ?_ 2 _ rfl; (with_reducible repeat (first | refine blk_drewN ?_ _ | refine blk_drew ?_ | refine blk_alloc ?_ _)); refine blk_put (cs := #[.int .i64 ((rd_T39 l0 x7_1).f0), .int .i64 0, .string (⟨#[]⟩ : ByteArray), .string (⟨#[]⟩ : ByteArray), .bool false, .bool false, .slice none 0 0, .slice none 0 0]) ?_ 1 _ rfl; (with_reducible repeat (first | refine blk_drewN ?_ _ | refine blk_drew ?_ | refine blk_alloc ?_ _)); refine blk_put (cs := #[.int .i64 0, .int .i64 0, .string (⟨#[]⟩ : ByteArray), .string (⟨#[]⟩ : ByteArray), .bool false, .bool false, .slice none 0 0, .slice none 0 0]) ?_ 0 _ rfl; (with_reducible repeat (first | refine blk_drewN ?_ _ | refine blk_drew ?_ | refine blk_alloc ?_ _)); exact BK118.out) hb); have n1_ := Aside0.mk (below_step (by repeat (first | (with_reducible first | exact HB.out | apply below_alloc | apply pw_below_drewN | apply below_drew1 | refine below_set ?_ GE118.out) | exact HB.out)) hb); have n2_ := Aside0.mk (hbox); have n3_ := Aside0.mk ((by rw [hg]; exact (below_size (by repeat (first | (with_reducible first | exact HB.out | apply below_alloc | apply pw_below_drewN | apply below_drew1 | refine below_set ?_ GE118.out) | exact HB.out))) : w.heap.size ≤ gb120)); have n4_ := Aside0.mk ((by rw [hg]; exact (below_size (by repeat (first | (with_reducible first | exact HB.out | apply below_alloc | apply pw_below_drewN | apply below_drew1 | refine below_set ?_ GE118.out) | exact HB.out))) : w.heap.size ≤ gb120)); have n5_ := Aside0.mk ((by rw [hg]; exact Nat.ne_of_lt (blk_lt (g := gb118) (o := .cells #[.int .i64 ((rd_T39 l0 x7_1).f0), .int .i64 ((rd_T39 l0 x7_1).f1), .string ((rd_T39 l0 x7_1).f2), .string ((rd_T39 l0 x7_1).f3), .bool ((rd_T39 l0 x7_1).f4), .bool ((rd_T39 l0 x7_1).f5), .slice A117_6 ((rd_T39 l0 x7_1).f6).length c117_6, .slice A117_7 ((rd_T39 l0 x7_1).f7).length c117_7] 39 (0, 0)) (by (with_reducible repeat (first | refine blk_drewN ?_ _ | refine blk_drew ?_ | refine blk_alloc ?_ _)); refine blk_put (cs := #[.int .i64 ((rd_T39 l0 x7_1).f0), .int .i64 ((rd_T39 l0 x7_1).f1), .string ((rd_T39 l0 x7_1).f2), .string ((rd_T39 l0 x7_1).f3), .bool ((rd_T39 l0 x7_1).f4), .bool ((rd_T39 l0 x7_1).f5), .slice A117_6 ((rd_T39 l0 x7_1).f6).length c117_6, .slice none 0 0]) ?_ 7 _ rfl; (with_reducible repeat (first | refine blk_drewN ?_ _ | refine blk_drew ?_ | refine blk_alloc ?_ _)); refine blk_put (cs := #[.int .i64 ((rd_T39 l0 x7_1).f0), .int .i64 ((rd_T39 l0 x7_1).f1), .string ((rd_T39 l0 x7_1).f2), .string ((rd_T39 l0 x7_1).f3), .bool ((rd_T39 l0 x7_1).f4), .bool ((rd_T39 l0 x7_1).f5), .slice none 0 0, .slice none 0 0]) ?_ 6 _ rfl; (with_reducible repeat (first | refine blk_drewN ?_ _ | refine blk_drew ?_ | refine blk_alloc ?_ _)); refine blk_put (cs := #[.int .i64 ((rd_T39 l0 x7_1).f0), .int .i64 ((rd_T39 l0 x7_1).f1), .string ((rd_T39 l0 x7_1).f2), .string ((rd_T39 l0 x7_1).f3), .bool ((rd_T39 l0 x7_1).f4), .bool false, .slice none 0 0, .slice none 0 0]) ?_ 5 _ rfl; (with_reducible repeat (first | refine blk_drewN ?_ _ | refine blk_drew ?_ | refine blk_alloc ?_ _)); refine blk_put (cs := #[.int .i64 ((rd_T39 l0 x7_1).f0), .int .i64 ((rd_T39 l0 x7_1).f1), .string ((rd_T39 l0 x7_1).f2), .string ((rd_T39 l0 x7_1).f3), .bool false, .bool false, .slice none 0 0, .slice none 0 0]) ?_ 4 _ rfl; (with_reducible repeat (first | refine blk_drewN ?_ _ | refine blk_drew ?_ | refine blk_alloc ?_ _)); refine blk_put (cs := #[.int .i64 ((rd_T39 l0 x7_1).f0), .int .i64 ((rd_T39 l0 x7_1).f1), .string ((rd_T39 l0 x7_1).f2), .string (⟨#[]⟩ : ByteArray), .bool false, .bool false, .slice none 0 0, .slice none 0 0]) ?_ 3 _ rfl; (with_reducible repeat (first | refine blk_drewN ?_ _ | refine blk_drew ?_ | refine blk_alloc ?_ _)); refine blk_put (cs := #[.int .i64 ((rd_T39 l0 x7_1).f0), .int .i64 ((rd_T39 l0 x7_1).f1), .string (⟨#[]⟩ : ByteArray), .string (⟨#[]⟩ : ByteArray), .bool false, .bool false, .slice none 0 0, .slice none 0 0]) ?_ 2 _ rfl; (with_reducible repeat (first | refine blk_drewN ?_ _ | refine blk_drew ?_ | refine blk_alloc ?_ _)); refine blk_put (cs := #[.int .i64 ((rd_T39 l0 x7_1).f0), .int .i64 0, .string (⟨#[]⟩ : ByteArray), .string (⟨#[]⟩ : ByteArray), .bool false, .bool false, .slice none 0 0, .slice none 0 0]) ?_ 1 _ rfl; (with_reducible repeat (first | refine blk_drewN ?_ _ | refine blk_drew ?_ | refine blk_alloc ?_ _)); refine blk_put (cs := #[.int .i64 0, .int .i64 0, .string (⟨#[]⟩ : ByteArray), .string (⟨#[]⟩ : ByteArray), .bool false, .bool false, .slice none 0 0, .slice none 0 0]) ?_ 0 _ rfl; (with_reducible repeat (first | refine blk_drewN ?_ _ | refine blk_drew ?_ | refine blk_alloc ?_ _)); exact BK118.out)) : gb118 ≠ gb120)); have n6_ := Aside0.mk ((by rw [hg]; exact Nat.ne_of_gt (blk_lt (g := gb118) (o := .cells #[.int .i64 ((rd_T39 l0 x7_1).f0), .int .i64 ((rd_T39 l0 x7_1).f1), .string ((rd_T39 l0 x7_1).f2), .string ((rd_T39 l0 x7_1).f3), .bool ((rd_T39 l0 x7_1).f4), .bool ((rd_T39 l0 x7_1).f5), .slice A117_6 ((rd_T39 l0 x7_1).f6).length c117_6, .slice A117_7 ((rd_T39 l0 x7_1).f7).length c117_7] 39 (0, 0)) (by (with_reducible repeat (first | refine blk_drewN ?_ _ | refine blk_drew ?_ | refine blk_alloc ?_ _)); refine blk_put (cs := #[.int .i64 ((rd_T39 l0 x7_1).f0), .int .i64 ((rd_T39 l0 x7_1).f1), .string ((rd_T39 l0 x7_1).f2), .string ((rd_T39 l0 x7_1).f3), .bool ((rd_T39 l0 x7_1).f4), .bool ((rd_T39 l0 x7_1).f5), .slice A117_6 ((rd_T39 l0 x7_1).f6).length c117_6, .slice none 0 0]) ?_ 7 _ rfl; (with_reducible repeat (first | refine blk_drewN ?_ _ | refine blk_drew ?_ | refine blk_alloc ?_ _)); refine blk_put (cs := #[.int .i64 ((rd_T39 l0 x7_1).f0), .int .i64 ((rd_T39 l0 x7_1).f1), .string ((rd_T39 l0 x7_1).f2), .string ((rd_T39 l0 x7_1).f3), .bool ((rd_T39 l0 x7_1).f4), .bool ((rd_T39 l0 x7_1).f5), .slice none 0 0, .slice none 0 0]) ?_ 6 _ rfl; (with_reducible repeat (first | refine blk_drewN ?_ _ | refine blk_drew ?_ | refine blk_alloc ?_ _)); refine blk_put (cs := #[.int .i64 ((rd_T39 l0 x7_1).f0), .int .i64 ((rd_T39 l0 x7_1).f1), .string ((rd_T39 l0 x7_1).f2), .string ((rd_T39 l0 x7_1).f3), .bool ((rd_T39 l0 x7_1).f4), .bool false, .slice none 0 0, .slice none 0 0]) ?_ 5 _ rfl; (with_reducible repeat (first | refine blk_drewN ?_ _ | refine blk_drew ?_ | refine blk_alloc ?_ _)); refine blk_put (cs := #[.int .i64 ((rd_T39 l0 x7_1).f0), .int .i64 ((rd_T39 l0 x7_1).f1), .string ((rd_T39 l0 x7_1).f2), .string ((rd_T39 l0 x7_1).f3), .bool false, .bool false, .slice none 0 0, .slice none 0 0]) ?_ 4 _ rfl; (with_reducible repeat (first | refine blk_drewN ?_ _ | refine blk_drew ?_ | refine blk_alloc ?_ _)); refine blk_put (cs := #[.int .i64 ((rd_T39 l0 x7_1).f0), .int .i64 ((rd_T39 l0 x7_1).f1), .string ((rd_T39 l0 x7_1).f2), .string (⟨#[]⟩ : ByteArray), .bool false, .bool false, .slice none 0 0, .slice none 0 0]) ?_ 3 _ rfl; (with_reducible repeat (first | refine blk_drewN ?_ _ | refine blk_drew ?_ | refine blk_alloc ?_ _)); refine blk_put (cs := #[.int .i64 ((rd_T39 l0 x7_1).f0), .int .i64 ((rd_T39 l0 x7_1).f1), .string (⟨#[]⟩ : ByteArray), .string (⟨#[]⟩ : ByteArray), .bool false, .bool false, .slice none 0 0, .slice none 0 0]) ?_ 2 _ rfl; (with_reducible repeat (first | refine blk_drewN ?_ _ | refine blk_drew ?_ | refine blk_alloc ?_ _)); refine blk_put (cs := #[.int .i64 ((rd_T39 l0 x7_1).f0), .int .i64 0, .string (⟨#[]⟩ : ByteArray), .string (⟨#[]⟩ : ByteArray), .bool false, .bool false, .slice none 0 0, .slice none 0 0]) ?_ 1 _ rfl; (with_reducible repeat (first | refine blk_drewN ?_ _ | refine blk_drew ?_ | refine blk_alloc ?_ _)); refine blk_put (cs := #[.int .i64 0, .int .i64 0, .string (⟨#[]⟩ : ByteArray), .string (⟨#[]⟩ : ByteArray), .bool false, .bool false, .slice none 0 0, .slice none 0 0]) ?_ 0 _ rfl; (with_reducible repeat (first | refine blk_drewN ?_ _ | refine blk_drew ?_ | refine blk_alloc ?_ _)); exact BK118.out)) : gb120 ≠ gb118)); clear BK118; clear HB; have BK118 := n0_; have HB := n1_; have BK120 := n2_; have GW120 := n3_; have GE120 := n4_; have NB118_120 := n5_; have NB120_118 := n6_; clear n0_ n1_ n2_ n3_ n4_ n5_ n6_; clear hb hbox hg; have hnb12 := NB120_118.out; have hnc12 := NB118_120.out; have hcz13_0 : w11.cell? ⟨gb120, 0, none⟩ = some (.int .i64 0) := (blk_cell BK120.out 0).trans rfl; have hcz13_1 : w11.cell? ⟨gb120, 1, none⟩ = some (.int .i64 0) := (blk_cell BK120.out 1).trans rfl; have hcz13_2 : w11.cell? ⟨gb120, 2, none⟩ = some (.string (⟨#[]⟩ : ByteArray)) := (blk_cell BK120.out 2).trans rfl; have hcz13_3 : w11.cell? ⟨gb120, 3, none⟩ = some (.string (⟨#[]⟩ : ByteArray)) := (blk_cell BK120.out 3).trans rfl; have hcz13_4 : w11.cell? ⟨gb120, 4, none⟩ = some (.bool false) := (blk_cell BK120.out 4).trans rfl; have hcz13_5 : w11.cell? ⟨gb120, 5, none⟩ = some (.bool false) := (blk_cell BK120.out 5).trans rfl; have hcz13_6 : w11.cell? ⟨gb120, 6, none⟩ = some (.slice none 0 0) := (blk_cell BK120.out 6).trans rfl; have hcz13_7 : w11.cell? ⟨gb120, 7, none⟩ = some (.slice none 0 0) := (blk_cell BK120.out 7).trans rfl; have hfz13_0 := blk_frozen BK120.out 0; have hfz13_1 := blk_frozen BK120.out 1; have hfz13_2 := blk_frozen BK120.out 2; have hfz13_3 := blk_frozen BK120.out 3; have hfz13_4 := blk_frozen BK120.out 4; have hfz13_5 := blk_frozen BK120.out 5; have hfz13_6 := blk_frozen BK120.out 6; have hfz13_7 := blk_frozen BK120.out 7))
              (try simp only [Act.put, List.setIfInBounds_toArray, List.set_cons_zero, List.set_cons_succ])
              go_cut [71] (fun v71 wc => ∃ (kq : Nat) (x71_7 : Bool), v71 = .bool x71_7 ∧ Aside0 (tmplpiperef12_Equal.j1 kq l0 l1 a2 x7_1 x71_7 ((rd_T39 l0 x7_1).f0) ((rd_T39 l0 x7_1).f1) ((rd_T39 l0 x7_1).f2) ((rd_T39 l0 x7_1).f3) ((rd_T39 l0 x7_1).f4) ((rd_T39 l0 x7_1).f5) ((rd_T39 l0 x7_1).f6) ((rd_T39 l0 x7_1).f7) ((rd_T39 l1 x7_1).f0) ((rd_T39 l1 x7_1).f1) ((rd_T39 l1 x7_1).f2) ((rd_T39 l1 x7_1).f3) ((rd_T39 l1 x7_1).f4) ((rd_T39 l1 x7_1).f5) ((rd_T39 l1 x7_1).f6) ((rd_T39 l1 x7_1).f7) = some r) ∧ Aside0 (kq ≤ k1) ∧ Aside0 (wc.heap[gb118]? = some (.cells #[.int .i64 ((rd_T39 l0 x7_1).f0), .int .i64 ((rd_T39 l0 x7_1).f1), .string ((rd_T39 l0 x7_1).f2), .string ((rd_T39 l0 x7_1).f3), .bool ((rd_T39 l0 x7_1).f4), .bool ((rd_T39 l0 x7_1).f5), (.slice A117_6 ((rd_T39 l0 x7_1).f6).length c117_6), (.slice A117_7 ((rd_T39 l0 x7_1).f7).length c117_7)] 39 (0, 0))) ∧ Aside0 (wc.heap[gb120]? = some (.cells #[.int .i64 ((rd_T39 l1 x7_1).f0), .int .i64 ((rd_T39 l1 x7_1).f1), .string ((rd_T39 l1 x7_1).f2), .string ((rd_T39 l1 x7_1).f3), .bool ((rd_T39 l1 x7_1).f4), .bool ((rd_T39 l1 x7_1).f5), (.slice A119_6 ((rd_T39 l1 x7_1).f6).length c119_6), (.slice A119_7 ((rd_T39 l1 x7_1).f7).length c119_7)] 39 (0, 0))) ∧ Aside0 (Below w.heap.size w wc))
              case first =>
                have H := HC8.out
                clear HC8
                by_cases c14 : ((rd_T39 l0 x7_1).f0) = ((rd_T39 l1 x7_1).f0)
                · rw [if_pos c14] at H
                  have c14b0 : (((rd_T39 l0 x7_1).f0) == ((rd_T39 l1 x7_1).f0)) = true := beq_iff_eq.mpr c14
                  have c14b1 : (((rd_T39 l0 x7_1).f0) != ((rd_T39 l1 x7_1).f0)) = false := bne_eq_false_iff_eq.mpr c14
                  clear c14
                  (first | rw [c14b0] | (simp only [i64_w, i32_w]; rw [c14b0]) | skip)
                  by_cases c15 : a2 = true
                  · subst c15
                    have H1 : (if ((rd_T39 l0 x7_1).f1) = ((rd_T39 l1 x7_1).f1) then (if ((rd_T39 l0 x7_1).f2).toList = ((rd_T39 l1 x7_1).f2).toList then (if ((rd_T39 l0 x7_1).f3).toList = ((rd_T39 l1 x7_1).f3).toList then (if (((rd_T39 l0 x7_1).f4) != ((rd_T39 l1 x7_1).f4)) = true then (tmplpiperef12_Equal.j1 k1 l0 l1 true x7_1 true ((rd_T39 l0 x7_1).f0) ((rd_T39 l0 x7_1).f1) ((rd_T39 l0 x7_1).f2) ((rd_T39 l0 x7_1).f3) ((rd_T39 l0 x7_1).f4) ((rd_T39 l0 x7_1).f5) ((rd_T39 l0 x7_1).f6) ((rd_T39 l0 x7_1).f7) ((rd_T39 l1 x7_1).f0) ((rd_T39 l1 x7_1).f1) ((rd_T39 l1 x7_1).f2) ((rd_T39 l1 x7_1).f3) ((rd_T39 l1 x7_1).f4) ((rd_T39 l1 x7_1).f5) ((rd_T39 l1 x7_1).f6) ((rd_T39 l1 x7_1).f7)) else (tmplpiperef12_Equal.j1 k1 l0 l1 true x7_1 (((rd_T39 l0 x7_1).f5) != ((rd_T39 l1 x7_1).f5)) ((rd_T39 l0 x7_1).f0) ((rd_T39 l0 x7_1).f1) ((rd_T39 l0 x7_1).f2) ((rd_T39 l0 x7_1).f3) ((rd_T39 l0 x7_1).f4) ((rd_T39 l0 x7_1).f5) ((rd_T39 l0 x7_1).f6) ((rd_T39 l0 x7_1).f7) ((rd_T39 l1 x7_1).f0) ((rd_T39 l1 x7_1).f1) ((rd_T39 l1 x7_1).f2) ((rd_T39 l1 x7_1).f3) ((rd_T39 l1 x7_1).f4) ((rd_T39 l1 x7_1).f5) ((rd_T39 l1 x7_1).f6) ((rd_T39 l1 x7_1).f7))) else (tmplpiperef12_Equal.j1 k1 l0 l1 true x7_1 true ((rd_T39 l0 x7_1).f0) ((rd_T39 l0 x7_1).f1) ((rd_T39 l0 x7_1).f2) ((rd_T39 l0 x7_1).f3) ((rd_T39 l0 x7_1).f4) ((rd_T39 l0 x7_1).f5) ((rd_T39 l0 x7_1).f6) ((rd_T39 l0 x7_1).f7) ((rd_T39 l1 x7_1).f0) ((rd_T39 l1 x7_1).f1) ((rd_T39 l1 x7_1).f2) ((rd_T39 l1 x7_1).f3) ((rd_T39 l1 x7_1).f4) ((rd_T39 l1 x7_1).f5) ((rd_T39 l1 x7_1).f6) ((rd_T39 l1 x7_1).f7))) else (tmplpiperef12_Equal.j1 k1 l0 l1 true x7_1 true ((rd_T39 l0 x7_1).f0) ((rd_T39 l0 x7_1).f1) ((rd_T39 l0 x7_1).f2) ((rd_T39 l0 x7_1).f3) ((rd_T39 l0 x7_1).f4) ((rd_T39 l0 x7_1).f5) ((rd_T39 l0 x7_1).f6) ((rd_T39 l0 x7_1).f7) ((rd_T39 l1 x7_1).f0) ((rd_T39 l1 x7_1).f1) ((rd_T39 l1 x7_1).f2) ((rd_T39 l1 x7_1).f3) ((rd_T39 l1 x7_1).f4) ((rd_T39 l1 x7_1).f5) ((rd_T39 l1 x7_1).f6) ((rd_T39 l1 x7_1).f7))) else (tmplpiperef12_Equal.j1 k1 l0 l1 true x7_1 true ((rd_T39 l0 x7_1).f0) ((rd_T39 l0 x7_1).f1) ((rd_T39 l0 x7_1).f2) ((rd_T39 l0 x7_1).f3) ((rd_T39 l0 x7_1).f4) ((rd_T39 l0 x7_1).f5) ((rd_T39 l0 x7_1).f6) ((rd_T39 l0 x7_1).f7) ((rd_T39 l1 x7_1).f0) ((rd_T39 l1 x7_1).f1) ((rd_T39 l1 x7_1).f2) ((rd_T39 l1 x7_1).f3) ((rd_T39 l1 x7_1).f4) ((rd_T39 l1 x7_1).f5) ((rd_T39 l1 x7_1).f6) ((rd_T39 l1 x7_1).f7))) = some r := by rw [if_pos rfl] at H; exact H
                    clear H
                    have H := H1
                    clear H1
                    by_cases c16 : ((rd_T39 l0 x7_1).f1) = ((rd_T39 l1 x7_1).f1)
                    · rw [if_pos c16] at H
                      have c16b0 : (((rd_T39 l0 x7_1).f1) == ((rd_T39 l1 x7_1).f1)) = true := beq_iff_eq.mpr c16
                      have c16b1 : (((rd_T39 l0 x7_1).f1) != ((rd_T39 l1 x7_1).f1)) = false := bne_eq_false_iff_eq.mpr c16
                      clear c16
                      by_cases c17 : ((rd_T39 l0 x7_1).f2).toList = ((rd_T39 l1 x7_1).f2).toList
                      · rw [if_pos c17] at H
                        have c17b0 : (((rd_T39 l0 x7_1).f2).toList == ((rd_T39 l1 x7_1).f2).toList) = true := beq_iff_eq.mpr c17
                        have c17b1 : (((rd_T39 l0 x7_1).f2).toList != ((rd_T39 l1 x7_1).f2).toList) = false := bne_eq_false_iff_eq.mpr c17
                        clear c17
                        by_cases c18 : ((rd_T39 l0 x7_1).f3).toList = ((rd_T39 l1 x7_1).f3).toList
                        · rw [if_pos c18] at H
                          have c18b0 : (((rd_T39 l0 x7_1).f3).toList == ((rd_T39 l1 x7_1).f3).toList) = true := beq_iff_eq.mpr c18
                          have c18b1 : (((rd_T39 l0 x7_1).f3).toList != ((rd_T39 l1 x7_1).f3).toList) = false := bne_eq_false_iff_eq.mpr c18
                          clear c18
                          by_cases c19 : (((rd_T39 l0 x7_1).f4) != ((rd_T39 l1 x7_1).f4)) = true
                          · rw [if_pos c19] at H
                            have c19b0 : (((rd_T39 l0 x7_1).f4) != ((rd_T39 l1 x7_1).f4)) = true := c19
                            (try (have c19b1 : decide (((rd_T39 l0 x7_1).f4) = ((rd_T39 l1 x7_1).f4)) = false := by simpa using c19))
                            (try (have c19b2 : (((rd_T39 l0 x7_1).f4) == ((rd_T39 l1 x7_1).f4)) = false := by simpa using c19))
                            (try (have c19b3 : ¬ (((rd_T39 l0 x7_1).f4) = ((rd_T39 l1 x7_1).f4)) := by simpa using c19))
                            clear c19
                            have H' := Aside0.mk H
                            clear H
                            have hnb20 := NB118_120.out
                            have hnc20 := NB120_118.out
                            have hcz21_0 : w11.cell? ⟨gb118, 0, none⟩ = some (.int .i64 ((rd_T39 l0 x7_1).f0)) := (blk_cell BK118.out 0).trans rfl
                            have hcz21_1 : w11.cell? ⟨gb118, 1, none⟩ = some (.int .i64 ((rd_T39 l0 x7_1).f1)) := (blk_cell BK118.out 1).trans rfl
                            have hcz21_2 : w11.cell? ⟨gb118, 2, none⟩ = some (.string ((rd_T39 l0 x7_1).f2)) := (blk_cell BK118.out 2).trans rfl
                            have hcz21_3 : w11.cell? ⟨gb118, 3, none⟩ = some (.string ((rd_T39 l0 x7_1).f3)) := (blk_cell BK118.out 3).trans rfl
                            have hcz21_4 : w11.cell? ⟨gb118, 4, none⟩ = some (.bool ((rd_T39 l0 x7_1).f4)) := (blk_cell BK118.out 4).trans rfl
                            have hcz21_5 : w11.cell? ⟨gb118, 5, none⟩ = some (.bool ((rd_T39 l0 x7_1).f5)) := (blk_cell BK118.out 5).trans rfl
                            have hcz21_6 : w11.cell? ⟨gb118, 6, none⟩ = some (.slice A117_6 ((rd_T39 l0 x7_1).f6).length c117_6) := (blk_cell BK118.out 6).trans rfl
                            have hcz21_7 : w11.cell? ⟨gb118, 7, none⟩ = some (.slice A117_7 ((rd_T39 l0 x7_1).f7).length c117_7) := (blk_cell BK118.out 7).trans rfl
                            have hfz21_0 := blk_frozen BK118.out 0
                            have hfz21_1 := blk_frozen BK118.out 1
                            have hfz21_2 := blk_frozen BK118.out 2
                            have hfz21_3 := blk_frozen BK118.out 3
                            have hfz21_4 := blk_frozen BK118.out 4
                            have hfz21_5 := blk_frozen BK118.out 5
                            have hfz21_6 := blk_frozen BK118.out 6
                            have hfz21_7 := blk_frozen BK118.out 7
                            have hcz22_0 : w11.cell? ⟨gb120, 0, none⟩ = some (.int .i64 0) := (blk_cell BK120.out 0).trans rfl
                            have hcz22_1 : w11.cell? ⟨gb120, 1, none⟩ = some (.int .i64 0) := (blk_cell BK120.out 1).trans rfl
                            have hcz22_2 : w11.cell? ⟨gb120, 2, none⟩ = some (.string (⟨#[]⟩ : ByteArray)) := (blk_cell BK120.out 2).trans rfl
                            have hcz22_3 : w11.cell? ⟨gb120, 3, none⟩ = some (.string (⟨#[]⟩ : ByteArray)) := (blk_cell BK120.out 3).trans rfl
                            have hcz22_4 : w11.cell? ⟨gb120, 4, none⟩ = some (.bool false) := (blk_cell BK120.out 4).trans rfl
                            have hcz22_5 : w11.cell? ⟨gb120, 5, none⟩ = some (.bool false) := (blk_cell BK120.out 5).trans rfl
                            have hcz22_6 : w11.cell? ⟨gb120, 6, none⟩ = some (.slice none 0 0) := (blk_cell BK120.out 6).trans rfl
                            have hcz22_7 : w11.cell? ⟨gb120, 7, none⟩ = some (.slice none 0 0) := (blk_cell BK120.out 7).trans rfl
                            have hfz22_0 := blk_frozen BK120.out 0
                            have hfz22_1 := blk_frozen BK120.out 1
                            have hfz22_2 := blk_frozen BK120.out 2
                            have hfz22_3 := blk_frozen BK120.out 3
                            have hfz22_4 := blk_frozen BK120.out 4
                            have hfz22_5 := blk_frozen BK120.out 5
                            have hfz22_6 := blk_frozen BK120.out 6
                            have hfz22_7 := blk_frozen BK120.out 7
                            go_wp2
                            go_meet
                            case rel => exact ⟨_, (true), (by first | rfl | (simp; done) | (simp [*]; done)), H', ⟨by have := HK1.out; first | omega | exact Nat.le_refl _⟩, ⟨by (with_reducible repeat (first | refine blk_drewN ?_ _ | refine blk_drew ?_ | refine blk_alloc ?_ _)); refine blk_far ?_ NB118_120.out _; (with_reducible repeat (first | refine blk_drewN ?_ _ | refine blk_drew ?_ | refine blk_alloc ?_ _)); refine blk_far ?_ NB118_120.out _; (with_reducible repeat (first | refine blk_drewN ?_ _ | refine blk_drew ?_ | refine blk_alloc ?_ _)); refine blk_far ?_ NB118_120.out _; (with_reducible repeat (first | refine blk_drewN ?_ _ | refine blk_drew ?_ | refine blk_alloc ?_ _)); refine blk_far ?_ NB118_120.out _; (with_reducible repeat (first | refine blk_drewN ?_ _ | refine blk_drew ?_ | refine blk_alloc ?_ _)); refine blk_far ?_ NB118_120.out _; (with_reducible repeat (first | refine blk_drewN ?_ _ | refine blk_drew ?_ | refine blk_alloc ?_ _)); refine blk_far ?_ NB118_120.out _; (with_reducible repeat (first | refine blk_drewN ?_ _ | refine blk_drew ?_ | refine blk_alloc ?_ _)); refine blk_far ?_ NB118_120.out _; (with_reducible repeat (first | refine blk_drewN ?_ _ | refine blk_drew ?_ | refine blk_alloc ?_ _)); refine blk_far ?_ NB118_120.out _; (with_reducible repeat (first | refine blk_drewN ?_ _ | refine blk_drew ?_ | refine blk_alloc ?_ _)); exact BK118.out⟩, ⟨by (with_reducible repeat (first | refine blk_drewN ?_ _ | refine blk_drew ?_ | refine blk_alloc ?_ _)); refine blk_put (cs := #[.int .i64 ((rd_T39 l1 x7_1).f0), .int .i64 ((rd_T39 l1 x7_1).f1), .string ((rd_T39 l1 x7_1).f2), .string ((rd_T39 l1 x7_1).f3), .bool ((rd_T39 l1 x7_1).f4), .bool ((rd_T39 l1 x7_1).f5), .slice A119_6 ((rd_T39 l1 x7_1).f6).length c119_6, .slice none 0 0]) ?_ 7 _ rfl; (with_reducible repeat (first | refine blk_drewN ?_ _ | refine blk_drew ?_ | refine blk_alloc ?_ _)); refine blk_put (cs := #[.int .i64 ((rd_T39 l1 x7_1).f0), .int .i64 ((rd_T39 l1 x7_1).f1), .string ((rd_T39 l1 x7_1).f2), .string ((rd_T39 l1 x7_1).f3), .bool ((rd_T39 l1 x7_1).f4), .bool ((rd_T39 l1 x7_1).f5), .slice none 0 0, .slice none 0 0]) ?_ 6 _ rfl; (with_reducible repeat (first | refine blk_drewN ?_ _ | refine blk_drew ?_ | refine blk_alloc ?_ _)); refine blk_put (cs := #[.int .i64 ((rd_T39 l1 x7_1).f0), .int .i64 ((rd_T39 l1 x7_1).f1), .string ((rd_T39 l1 x7_1).f2), .string ((rd_T39 l1 x7_1).f3), .bool ((rd_T39 l1 x7_1).f4), .bool false, .slice none 0 0, .slice none 0 0]) ?_ 5 _ rfl; (with_reducible repeat (first | refine blk_drewN ?_ _ | refine blk_drew ?_ | refine blk_alloc ?_ _)); refine blk_put (cs := #[.int .i64 ((rd_T39 l1 x7_1).f0), .int .i64 ((rd_T39 l1 x7_1).f1), .string ((rd_T39 l1 x7_1).f2), .string ((rd_T39 l1 x7_1).f3), .bool false, .bool false, .slice none 0 0, .slice none 0 0]) ?_ 4 _ rfl; (with_reducible repeat (first | refine blk_drewN ?_ _ | refine blk_drew ?_ | refine blk_alloc ?_ _)); refine blk_put (cs := #[.int .i64 ((rd_T39 l1 x7_1).f0), .int .i64 ((rd_T39 l1 x7_1).f1), .string ((rd_T39 l1 x7_1).f2), .string (⟨#[]⟩ : ByteArray), .bool false, .bool false, .slice none 0 0, .slice none 0 0]) ?_ 3 _ rfl; (with_reducible repeat (first | refine blk_drewN ?_ _ | refine blk_drew ?_ | refine blk_alloc ?_ _)); refine blk_put (cs := #[.int .i64 ((rd_T39 l1 x7_1).f0), .int .i64 ((rd_T39 l1 x7_1).f1), .string (⟨#[]⟩ : ByteArray), .string (⟨#[]⟩ : ByteArray), .bool false, .bool false, .slice none 0 0, .slice none 0 0]) ?_ 2 _ rfl; (with_reducible repeat (first | refine blk_drewN ?_ _ | refine blk_drew ?_ | refine blk_alloc ?_ _)); refine blk_put (cs := #[.int .i64 ((rd_T39 l1 x7_1).f0), .int .i64 0, .string (⟨#[]⟩ : ByteArray), .string (⟨#[]⟩ : ByteArray), .bool false, .bool false, .slice none 0 0, .slice none 0 0]) ?_ 1 _ rfl; (with_reducible repeat (first | refine blk_drewN ?_ _ | refine blk_drew ?_ | refine blk_alloc ?_ _)); refine blk_put (cs := #[.int .i64 0, .int .i64 0, .string (⟨#[]⟩ : ByteArray), .string (⟨#[]⟩ : ByteArray), .bool false, .bool false, .slice none 0 0, .slice none 0 0]) ?_ 0 _ rfl; (with_reducible repeat (first | refine blk_drewN ?_ _ | refine blk_drew ?_ | refine blk_alloc ?_ _)); exact BK120.out⟩, ⟨by repeat (first | (with_reducible first | exact HB.out | apply below_alloc | apply pw_below_drewN | apply below_drew1 | refine below_set ?_ GE118.out | refine below_set ?_ GE120.out) | exact HB.out)⟩⟩
                          · rw [if_neg c19] at H
                            have c19b0 : (((rd_T39 l0 x7_1).f4) != ((rd_T39 l1 x7_1).f4)) = false := by simpa using c19
                            (try (have c19b1 : decide (((rd_T39 l0 x7_1).f4) = ((rd_T39 l1 x7_1).f4)) = true := by simpa using c19))
                            (try (have c19b2 : (((rd_T39 l0 x7_1).f4) == ((rd_T39 l1 x7_1).f4)) = true := by simpa using c19))
                            clear c19
                            have H' := Aside0.mk H
                            clear H
                            have hnb23 := NB118_120.out
                            have hnc23 := NB120_118.out
                            have hcz24_0 : w11.cell? ⟨gb118, 0, none⟩ = some (.int .i64 ((rd_T39 l0 x7_1).f0)) := (blk_cell BK118.out 0).trans rfl
                            have hcz24_1 : w11.cell? ⟨gb118, 1, none⟩ = some (.int .i64 ((rd_T39 l0 x7_1).f1)) := (blk_cell BK118.out 1).trans rfl
                            have hcz24_2 : w11.cell? ⟨gb118, 2, none⟩ = some (.string ((rd_T39 l0 x7_1).f2)) := (blk_cell BK118.out 2).trans rfl
                            have hcz24_3 : w11.cell? ⟨gb118, 3, none⟩ = some (.string ((rd_T39 l0 x7_1).f3)) := (blk_cell BK118.out 3).trans rfl
                            have hcz24_4 : w11.cell? ⟨gb118, 4, none⟩ = some (.bool ((rd_T39 l0 x7_1).f4)) := (blk_cell BK118.out 4).trans rfl
                            have hcz24_5 : w11.cell? ⟨gb118, 5, none⟩ = some (.bool ((rd_T39 l0 x7_1).f5)) := (blk_cell BK118.out 5).trans rfl
                            have hcz24_6 : w11.cell? ⟨gb118, 6, none⟩ = some (.slice A117_6 ((rd_T39 l0 x7_1).f6).length c117_6) := (blk_cell BK118.out 6).trans rfl
                            have hcz24_7 : w11.cell? ⟨gb118, 7, none⟩ = some (.slice A117_7 ((rd_T39 l0 x7_1).f7).length c117_7) := (blk_cell BK118.out 7).trans rfl
                            have hfz24_0 := blk_frozen BK118.out 0
                            have hfz24_1 := blk_frozen BK118.out 1
                            have hfz24_2 := blk_frozen BK118.out 2
                            have hfz24_3 := blk_frozen BK118.out 3
                            have hfz24_4 := blk_frozen BK118.out 4
                            have hfz24_5 := blk_frozen BK118.out 5
                            have hfz24_6 := blk_frozen BK118.out 6
                            have hfz24_7 := blk_frozen BK118.out 7
                            have hcz25_0 : w11.cell? ⟨gb120, 0, none⟩ = some (.int .i64 0) := (blk_cell BK120.out 0).trans rfl
                            have hcz25_1 : w11.cell? ⟨gb120, 1, none⟩ = some (.int .i64 0) := (blk_cell BK120.out 1).trans rfl
                            have hcz25_2 : w11.cell? ⟨gb120, 2, none⟩ = some (.string (⟨#[]⟩ : ByteArray)) := (blk_cell BK120.out 2).trans rfl
                            have hcz25_3 : w11.cell? ⟨gb120, 3, none⟩ = some (.string (⟨#[]⟩ : ByteArray)) := (blk_cell BK120.out 3).trans rfl
                            have hcz25_4 : w11.cell? ⟨gb120, 4, none⟩ = some (.bool false) := (blk_cell BK120.out 4).trans rfl
                            have hcz25_5 : w11.cell? ⟨gb120, 5, none⟩ = some (.bool false) := (blk_cell BK120.out 5).trans rfl
                            have hcz25_6 : w11.cell? ⟨gb120, 6, none⟩ = some (.slice none 0 0) := (blk_cell BK120.out 6).trans rfl
                            have hcz25_7 : w11.cell? ⟨gb120, 7, none⟩ = some (.slice none 0 0) := (blk_cell BK120.out 7).trans rfl
                            have hfz25_0 := blk_frozen BK120.out 0
                            have hfz25_1 := blk_frozen BK120.out 1
                            have hfz25_2 := blk_frozen BK120.out 2
                            have hfz25_3 := blk_frozen BK120.out 3
                            have hfz25_4 := blk_frozen BK120.out 4
                            have hfz25_5 := blk_frozen BK120.out 5
                            have hfz25_6 := blk_frozen BK120.out 6
                            have hfz25_7 := blk_frozen BK120.out 7
                            go_wp2
                            go_meet
                            case rel => exact ⟨_, ((((rd_T39 l0 x7_1).f5) != ((rd_T39 l1 x7_1).f5))), (by first | rfl | (simp; done) | (simp [*]; done)), H', ⟨by have := HK1.out; first | omega | exact Nat.le_refl _⟩, ⟨by (with_reducible repeat (first | refine blk_drewN ?_ _ | refine blk_drew ?_ | refine blk_alloc ?_ _)); refine blk_far ?_ NB118_120.out _; (with_reducible repeat (first | refine blk_drewN ?_ _ | refine blk_drew ?_ | refine blk_alloc ?_ _)); refine blk_far ?_ NB118_120.out _; (with_reducible repeat (first | refine blk_drewN ?_ _ | refine blk_drew ?_ | refine blk_alloc ?_ _)); refine blk_far ?_ NB118_120.out _; (with_reducible repeat (first | refine blk_drewN ?_ _ | refine blk_drew ?_ | refine blk_alloc ?_ _)); refine blk_far ?_ NB118_120.out _; (with_reducible repeat (first | refine blk_drewN ?_ _ | refine blk_drew ?_ | refine blk_alloc ?_ _)); refine blk_far ?_ NB118_120.out _; (with_reducible repeat (first | refine blk_drewN ?_ _ | refine blk_drew ?_ | refine blk_alloc ?_ _)); refine blk_far ?_ NB118_120.out _; (with_reducible repeat (first | refine blk_drewN ?_ _ | refine blk_drew ?_ | refine blk_alloc ?_ _)); refine blk_far ?_ NB118_120.out _; (with_reducible repeat (first | refine blk_drewN ?_ _ | refine blk_drew ?_ | refine blk_alloc ?_ _)); refine blk_far ?_ NB118_120.out _; (with_reducible repeat (first | refine blk_drewN ?_ _ | refine blk_drew ?_ | refine blk_alloc ?_ _)); exact BK118.out⟩, ⟨by (with_reducible repeat (first | refine blk_drewN ?_ _ | refine blk_drew ?_ | refine blk_alloc ?_ _)); refine blk_put (cs := #[.int .i64 ((rd_T39 l1 x7_1).f0), .int .i64 ((rd_T39 l1 x7_1).f1), .string ((rd_T39 l1 x7_1).f2), .string ((rd_T39 l1 x7_1).f3), .bool ((rd_T39 l1 x7_1).f4), .bool ((rd_T39 l1 x7_1).f5), .slice A119_6 ((rd_T39 l1 x7_1).f6).length c119_6, .slice none 0 0]) ?_ 7 _ rfl; (with_reducible repeat (first | refine blk_drewN ?_ _ | refine blk_drew ?_ | refine blk_alloc ?_ _)); refine blk_put (cs := #[.int .i64 ((rd_T39 l1 x7_1).f0), .int .i64 ((rd_T39 l1 x7_1).f1), .string ((rd_T39 l1 x7_1).f2), .string ((rd_T39 l1 x7_1).f3), .bool ((rd_T39 l1 x7_1).f4), .bool ((rd_T39 l1 x7_1).f5), .slice none 0 0, .slice none 0 0]) ?_ 6 _ rfl; (with_reducible repeat (first | refine blk_drewN ?_ _ | refine blk_drew ?_ | refine blk_alloc ?_ _)); refine blk_put (cs := #[.int .i64 ((rd_T39 l1 x7_1).f0), .int .i64 ((rd_T39 l1 x7_1).f1), .string ((rd_T39 l1 x7_1).f2), .string ((rd_T39 l1 x7_1).f3), .bool ((rd_T39 l1 x7_1).f4), .bool false, .slice none 0 0, .slice none 0 0]) ?_ 5 _ rfl; (with_reducible repeat (first | refine blk_drewN ?_ _ | refine blk_drew ?_ | refine blk_alloc ?_ _)); refine blk_put (cs := #[.int .i64 ((rd_T39 l1 x7_1).f0), .int .i64 ((rd_T39 l1 x7_1).f1), .string ((rd_T39 l1 x7_1).f2), .string ((rd_T39 l1 x7_1).f3), .bool false, .bool false, .slice none 0 0, .slice none 0 0]) ?_ 4 _ rfl; (with_reducible repeat (first | refine blk_drewN ?_ _ | refine blk_drew ?_ | refine blk_alloc ?_ _)); refine blk_put (cs := #[.int .i64 ((rd_T39 l1 x7_1).f0), .int .i64 ((rd_T39 l1 x7_1).f1), .string ((rd_T39 l1 x7_1).f2), .string (⟨#[]⟩ : ByteArray), .bool false, .bool false, .slice none 0 0, .slice none 0 0]) ?_ 3 _ rfl; (with_reducible repeat (first | refine blk_drewN ?_ _ | refine blk_drew ?_ | refine blk_alloc ?_ _)); refine blk_put (cs := #[.int .i64 ((rd_T39 l1 x7_1).f0), .int .i64 ((rd_T39 l1 x7_1).f1), .string (⟨#[]⟩ : ByteArray), .string (⟨#[]⟩ : ByteArray), .bool false, .bool false, .slice none 0 0, .slice none 0 0]) ?_ 2 _ rfl; (with_reducible repeat (first | refine blk_drewN ?_ _ | refine blk_drew ?_ | refine blk_alloc ?_ _)); refine blk_put (cs := #[.int .i64 ((rd_T39 l1 x7_1).f0), .int .i64 0, .string (⟨#[]⟩ : ByteArray), .string (⟨#[]⟩ : ByteArray), .bool false, .bool false, .slice none 0 0, .slice none 0 0]) ?_ 1 _ rfl; (with_reducible repeat (first | refine blk_drewN ?_ _ | refine blk_drew ?_ | refine blk_alloc ?_ _)); refine blk_put (cs := #[.int .i64 0, .int .i64 0, .string (⟨#[]⟩ : ByteArray), .string (⟨#[]⟩ : ByteArray), .bool false, .bool false, .slice none 0 0, .slice none 0 0]) ?_ 0 _ rfl; (with_reducible repeat (first | refine blk_drewN ?_ _ | refine blk_drew ?_ | refine blk_alloc ?_ _)); exact BK120.out⟩, ⟨by repeat (first | (with_reducible first | exact HB.out | apply below_alloc | apply pw_below_drewN | apply below_drew1 | refine below_set ?_ GE118.out | refine below_set ?_ GE120.out) | exact HB.out)⟩⟩
                        · rw [if_neg c18] at H
                          have c18b0 : (((rd_T39 l0 x7_1).f3).toList == ((rd_T39 l1 x7_1).f3).toList) = false := beq_eq_false_iff_ne.mpr c18
                          have c18b1 : (((rd_T39 l0 x7_1).f3).toList != ((rd_T39 l1 x7_1).f3).toList) = true := bne_iff_ne.mpr c18
                          have H' := Aside0.mk H
                          clear H
                          have hnb26 := NB118_120.out
                          have hnc26 := NB120_118.out
                          have hcz27_0 : w11.cell? ⟨gb118, 0, none⟩ = some (.int .i64 ((rd_T39 l0 x7_1).f0)) := (blk_cell BK118.out 0).trans rfl
                          have hcz27_1 : w11.cell? ⟨gb118, 1, none⟩ = some (.int .i64 ((rd_T39 l0 x7_1).f1)) := (blk_cell BK118.out 1).trans rfl
                          have hcz27_2 : w11.cell? ⟨gb118, 2, none⟩ = some (.string ((rd_T39 l0 x7_1).f2)) := (blk_cell BK118.out 2).trans rfl
                          have hcz27_3 : w11.cell? ⟨gb118, 3, none⟩ = some (.string ((rd_T39 l0 x7_1).f3)) := (blk_cell BK118.out 3).trans rfl
                          have hcz27_4 : w11.cell? ⟨gb118, 4, none⟩ = some (.bool ((rd_T39 l0 x7_1).f4)) := (blk_cell BK118.out 4).trans rfl
                          have hcz27_5 : w11.cell? ⟨gb118, 5, none⟩ = some (.bool ((rd_T39 l0 x7_1).f5)) := (blk_cell BK118.out 5).trans rfl
                          have hcz27_6 : w11.cell? ⟨gb118, 6, none⟩ = some (.slice A117_6 ((rd_T39 l0 x7_1).f6).length c117_6) := (blk_cell BK118.out 6).trans rfl
                          have hcz27_7 : w11.cell? ⟨gb118, 7, none⟩ = some (.slice A117_7 ((rd_T39 l0 x7_1).f7).length c117_7) := (blk_cell BK118.out 7).trans rfl
                          have hfz27_0 := blk_frozen BK118.out 0
                          have hfz27_1 := blk_frozen BK118.out 1
                          have hfz27_2 := blk_frozen BK118.out 2
                          have hfz27_3 := blk_frozen BK118.out 3
                          have hfz27_4 := blk_frozen BK118.out 4
                          have hfz27_5 := blk_frozen BK118.out 5
                          have hfz27_6 := blk_frozen BK118.out 6
                          have hfz27_7 := blk_frozen BK118.out 7
                          have hcz28_0 : w11.cell? ⟨gb120, 0, none⟩ = some (.int .i64 0) := (blk_cell BK120.out 0).trans rfl
                          have hcz28_1 : w11.cell? ⟨gb120, 1, none⟩ = some (.int .i64 0) := (blk_cell BK120.out 1).trans rfl
                          have hcz28_2 : w11.cell? ⟨gb120, 2, none⟩ = some (.string (⟨#[]⟩ : ByteArray)) := (blk_cell BK120.out 2).trans rfl
                          have hcz28_3 : w11.cell? ⟨gb120, 3, none⟩ = some (.string (⟨#[]⟩ : ByteArray)) := (blk_cell BK120.out 3).trans rfl
                          have hcz28_4 : w11.cell? ⟨gb120, 4, none⟩ = some (.bool false) := (blk_cell BK120.out 4).trans rfl
                          have hcz28_5 : w11.cell? ⟨gb120, 5, none⟩ = some (.bool false) := (blk_cell BK120.out 5).trans rfl
                          have hcz28_6 : w11.cell? ⟨gb120, 6, none⟩ = some (.slice none 0 0) := (blk_cell BK120.out 6).trans rfl
                          have hcz28_7 : w11.cell? ⟨gb120, 7, none⟩ = some (.slice none 0 0) := (blk_cell BK120.out 7).trans rfl
                          have hfz28_0 := blk_frozen BK120.out 0
                          have hfz28_1 := blk_frozen BK120.out 1
                          have hfz28_2 := blk_frozen BK120.out 2
                          have hfz28_3 := blk_frozen BK120.out 3
                          have hfz28_4 := blk_frozen BK120.out 4
                          have hfz28_5 := blk_frozen BK120.out 5
                          have hfz28_6 := blk_frozen BK120.out 6
                          have hfz28_7 := blk_frozen BK120.out 7
                          go_wp2
                          go_meet
                          case rel => exact ⟨_, (true), (by first | rfl | (simp; done) | (simp [*]; done)), H', ⟨by have := HK1.out; first | omega | exact Nat.le_refl _⟩, ⟨by (with_reducible repeat (first | refine blk_drewN ?_ _ | refine blk_drew ?_ | refine blk_alloc ?_ _)); refine blk_far ?_ NB118_120.out _; (with_reducible repeat (first | refine blk_drewN ?_ _ | refine blk_drew ?_ | refine blk_alloc ?_ _)); refine blk_far ?_ NB118_120.out _; (with_reducible repeat (first | refine blk_drewN ?_ _ | refine blk_drew ?_ | refine blk_alloc ?_ _)); refine blk_far ?_ NB118_120.out _; (with_reducible repeat (first | refine blk_drewN ?_ _ | refine blk_drew ?_ | refine blk_alloc ?_ _)); refine blk_far ?_ NB118_120.out _; (with_reducible repeat (first | refine blk_drewN ?_ _ | refine blk_drew ?_ | refine blk_alloc ?_ _)); refine blk_far ?_ NB118_120.out _; (with_reducible repeat (first | refine blk_drewN ?_ _ | refine blk_drew ?_ | refine blk_alloc ?_ _)); refine blk_far ?_ NB118_120.out _; (with_reducible repeat (first | refine blk_drewN ?_ _ | refine blk_drew ?_ | refine blk_alloc ?_ _)); refine blk_far ?_ NB118_120.out _; (with_reducible repeat (first | refine blk_drewN ?_ _ | refine blk_drew ?_ | refine blk_alloc ?_ _)); refine blk_far ?_ NB118_120.out _; (with_reducible repeat (first | refine blk_drewN ?_ _ | refine blk_drew ?_ | refine blk_alloc ?_ _)); exact BK118.out⟩, ⟨by (with_reducible repeat (first | refine blk_drewN ?_ _ | refine blk_drew ?_ | refine blk_alloc ?_ _)); refine blk_put (cs := #[.int .i64 ((rd_T39 l1 x7_1).f0), .int .i64 ((rd_T39 l1 x7_1).f1), .string ((rd_T39 l1 x7_1).f2), .string ((rd_T39 l1 x7_1).f3), .bool ((rd_T39 l1 x7_1).f4), .bool ((rd_T39 l1 x7_1).f5), .slice A119_6 ((rd_T39 l1 x7_1).f6).length c119_6, .slice none 0 0]) ?_ 7 _ rfl; (with_reducible repeat (first | refine blk_drewN ?_ _ | refine blk_drew ?_ | refine blk_alloc ?_ _)); refine blk_put (cs := #[.int .i64 ((rd_T39 l1 x7_1).f0), .int .i64 ((rd_T39 l1 x7_1).f1), .string ((rd_T39 l1 x7_1).f2), .string ((rd_T39 l1 x7_1).f3), .bool ((rd_T39 l1 x7_1).f4), .bool ((rd_T39 l1 x7_1).f5), .slice none 0 0, .slice none 0 0]) ?_ 6 _ rfl; (with_reducible repeat (first | refine blk_drewN ?_ _ | refine blk_drew ?_ | refine blk_alloc ?_ _)); refine blk_put (cs := #[.int .i64 ((rd_T39 l1 x7_1).f0), .int .i64 ((rd_T39 l1 x7_1).f1), .string ((rd_T39 l1 x7_1).f2), .string ((rd_T39 l1 x7_1).f3), .bool ((rd_T39 l1 x7_1).f4), .bool false, .slice none 0 0, .slice none 0 0]) ?_ 5 _ rfl; (with_reducible repeat (first | refine blk_drewN ?_ _ | refine blk_drew ?_ | refine blk_alloc ?_ _)); refine blk_put (cs := #[.int .i64 ((rd_T39 l1 x7_1).f0), .int .i64 ((rd_T39 l1 x7_1).f1), .string ((rd_T39 l1 x7_1).f2), .string ((rd_T39 l1 x7_1).f3), .bool false, .bool false, .slice none 0 0, .slice none 0 0]) ?_ 4 _ rfl; (with_reducible repeat (first | refine blk_drewN ?_ _ | refine blk_drew ?_ | refine blk_alloc ?_ _)); refine blk_put (cs := #[.int .i64 ((rd_T39 l1 x7_1).f0), .int .i64 ((rd_T39 l1 x7_1).f1), .string ((rd_T39 l1 x7_1).f2), .string (⟨#[]⟩ : ByteArray), .bool false, .bool false, .slice none 0 0, .slice none 0 0]) ?_ 3 _ rfl; (with_reducible repeat (first | refine blk_drewN ?_ _ | refine blk_drew ?_ | refine blk_alloc ?_ _)); refine blk_put (cs := #[.int .i64 ((rd_T39 l1 x7_1).f0), .int .i64 ((rd_T39 l1 x7_1).f1), .string (⟨#[]⟩ : ByteArray), .string (⟨#[]⟩ : ByteArray), .bool false, .bool false, .slice none 0 0, .slice none 0 0]) ?_ 2 _ rfl; (with_reducible repeat (first | refine blk_drewN ?_ _ | refine blk_drew ?_ | refine blk_alloc ?_ _)); refine blk_put (cs := #[.int .i64 ((rd_T39 l1 x7_1).f0), .int .i64 0, .string (⟨#[]⟩ : ByteArray), .string (⟨#[]⟩ : ByteArray), .bool false, .bool false, .slice none 0 0, .slice none 0 0]) ?_ 1 _ rfl; (with_reducible repeat (first | refine blk_drewN ?_ _ | refine blk_drew ?_ | refine blk_alloc ?_ _)); refine blk_put (cs := #[.int .i64 0, .int .i64 0, .string (⟨#[]⟩ : ByteArray), .string (⟨#[]⟩ : ByteArray), .bool false, .bool false, .slice none 0 0, .slice none 0 0]) ?_ 0 _ rfl; (with_reducible repeat (first | refine blk_drewN ?_ _ | refine blk_drew ?_ | refine blk_alloc ?_ _)); exact BK120.out⟩, ⟨by repeat (first | (with_reducible first | exact HB.out | apply below_alloc | apply pw_below_drewN | apply below_drew1 | refine below_set ?_ GE118.out | refine below_set ?_ GE120.out) | exact HB.out)⟩⟩
                      · rw [if_neg c17] at H
                        have c17b0 : (((rd_T39 l0 x7_1).f2).toList == ((rd_T39 l1 x7_1).f2).toList) = false := beq_eq_false_iff_ne.mpr c17
                        have c17b1 : (((rd_T39 l0 x7_1).f2).toList != ((rd_T39 l1 x7_1).f2).toList) = true := bne_iff_ne.mpr c17
                        have H' := Aside0.mk H
                        clear H
                        have hnb29 := NB118_120.out
                        have hnc29 := NB120_118.out
                        have hcz30_0 : w11.cell? ⟨gb118, 0, none⟩ = some (.int .i64 ((rd_T39 l0 x7_1).f0)) := (blk_cell BK118.out 0).trans rfl
                        have hcz30_1 : w11.cell? ⟨gb118, 1, none⟩ = some (.int .i64 ((rd_T39 l0 x7_1).f1)) := (blk_cell BK118.out 1).trans rfl
                        have hcz30_2 : w11.cell? ⟨gb118, 2, none⟩ = some (.string ((rd_T39 l0 x7_1).f2)) := (blk_cell BK118.out 2).trans rfl
                        have hcz30_3 : w11.cell? ⟨gb118, 3, none⟩ = some (.string ((rd_T39 l0 x7_1).f3)) := (blk_cell BK118.out 3).trans rfl
                        have hcz30_4 : w11.cell? ⟨gb118, 4, none⟩ = some (.bool ((rd_T39 l0 x7_1).f4)) := (blk_cell BK118.out 4).trans rfl
                        have hcz30_5 : w11.cell? ⟨gb118, 5, none⟩ = some (.bool ((rd_T39 l0 x7_1).f5)) := (blk_cell BK118.out 5).trans rfl
                        have hcz30_6 : w11.cell? ⟨gb118, 6, none⟩ = some (.slice A117_6 ((rd_T39 l0 x7_1).f6).length c117_6) := (blk_cell BK118.out 6).trans rfl
                        have hcz30_7 : w11.cell? ⟨gb118, 7, none⟩ = some (.slice A117_7 ((rd_T39 l0 x7_1).f7).length c117_7) := (blk_cell BK118.out 7).trans rfl
                        have hfz30_0 := blk_frozen BK118.out 0
                        have hfz30_1 := blk_frozen BK118.out 1
                        have hfz30_2 := blk_frozen BK118.out 2
                        have hfz30_3 := blk_frozen BK118.out 3
                        have hfz30_4 := blk_frozen BK118.out 4
                        have hfz30_5 := blk_frozen BK118.out 5
                        have hfz30_6 := blk_frozen BK118.out 6
                        have hfz30_7 := blk_frozen BK118.out 7
                        have hcz31_0 : w11.cell? ⟨gb120, 0, none⟩ = some (.int .i64 0) := (blk_cell BK120.out 0).trans rfl
                        have hcz31_1 : w11.cell? ⟨gb120, 1, none⟩ = some (.int .i64 0) := (blk_cell BK120.out 1).trans rfl
                        have hcz31_2 : w11.cell? ⟨gb120, 2, none⟩ = some (.string (⟨#[]⟩ : ByteArray)) := (blk_cell BK120.out 2).trans rfl
                        have hcz31_3 : w11.cell? ⟨gb120, 3, none⟩ = some (.string (⟨#[]⟩ : ByteArray)) := (blk_cell BK120.out 3).trans rfl
                        have hcz31_4 : w11.cell? ⟨gb120, 4, none⟩ = some (.bool false) := (blk_cell BK120.out 4).trans rfl
                        have hcz31_5 : w11.cell? ⟨gb120, 5, none⟩ = some (.bool false) := (blk_cell BK120.out 5).trans rfl
                        have hcz31_6 : w11.cell? ⟨gb120, 6, none⟩ = some (.slice none 0 0) := (blk_cell BK120.out 6).trans rfl
                        have hcz31_7 : w11.cell? ⟨gb120, 7, none⟩ = some (.slice none 0 0) := (blk_cell BK120.out 7).trans rfl
                        have hfz31_0 := blk_frozen BK120.out 0
                        have hfz31_1 := blk_frozen BK120.out 1
                        have hfz31_2 := blk_frozen BK120.out 2
                        have hfz31_3 := blk_frozen BK120.out 3
                        have hfz31_4 := blk_frozen BK120.out 4
                        have hfz31_5 := blk_frozen BK120.out 5
                        have hfz31_6 := blk_frozen BK120.out 6
                        have hfz31_7 := blk_frozen BK120.out 7
                        go_wp2
                        go_meet
                        case rel => exact ⟨_, (true), (by first | rfl | (simp; done) | (simp [*]; done)), H', ⟨by have := HK1.out; first | omega | exact Nat.le_refl _⟩, ⟨by (with_reducible repeat (first | refine blk_drewN ?_ _ | refine blk_drew ?_ | refine blk_alloc ?_ _)); refine blk_far ?_ NB118_120.out _; (with_reducible repeat (first | refine blk_drewN ?_ _ | refine blk_drew ?_ | refine blk_alloc ?_ _)); refine blk_far ?_ NB118_120.out _; (with_reducible repeat (first | refine blk_drewN ?_ _ | refine blk_drew ?_ | refine blk_alloc ?_ _)); refine blk_far ?_ NB118_120.out _; (with_reducible repeat (first | refine blk_drewN ?_ _ | refine blk_drew ?_ | refine blk_alloc ?_ _)); refine blk_far ?_ NB118_120.out _; (with_reducible repeat (first | refine blk_drewN ?_ _ | refine blk_drew ?_ | refine blk_alloc ?_ _)); refine blk_far ?_ NB118_120.out _; (with_reducible repeat (first | refine blk_drewN ?_ _ | refine blk_drew ?_ | refine blk_alloc ?_ _)); refine blk_far ?_ NB118_120.out _; (with_reducible repeat (first | refine blk_drewN ?_ _ | refine blk_drew ?_ | refine blk_alloc ?_ _)); refine blk_far ?_ NB118_120.out _; (with_reducible repeat (first | refine blk_drewN ?_ _ | refine blk_drew ?_ | refine blk_alloc ?_ _)); refine blk_far ?_ NB118_120.out _; (with_reducible repeat (first | refine blk_drewN ?_ _ | refine blk_drew ?_ | refine blk_alloc ?_ _)); exact BK118.out⟩, ⟨by (with_reducible repeat (first | refine blk_drewN ?_ _ | refine blk_drew ?_ | refine blk_alloc ?_ _)); refine blk_put (cs := #[.int .i64 ((rd_T39 l1 x7_1).f0), .int .i64 ((rd_T39 l1 x7_1).f1), .string ((rd_T39 l1 x7_1).f2), .string ((rd_T39 l1 x7_1).f3), .bool ((rd_T39 l1 x7_1).f4), .bool ((rd_T39 l1 x7_1).f5), .slice A119_6 ((rd_T39 l1 x7_1).f6).length c119_6, .slice none 0 0]) ?_ 7 _ rfl; (with_reducible repeat (first | refine blk_drewN ?_ _ | refine blk_drew ?_ | refine blk_alloc ?_ _)); refine blk_put (cs := #[.int .i64 ((rd_T39 l1 x7_1).f0), .int .i64 ((rd_T39 l1 x7_1).f1), .string ((rd_T39 l1 x7_1).f2), .string ((rd_T39 l1 x7_1).f3), .bool ((rd_T39 l1 x7_1).f4), .bool ((rd_T39 l1 x7_1).f5), .slice none 0 0, .slice none 0 0]) ?_ 6 _ rfl; (with_reducible repeat (first | refine blk_drewN ?_ _ | refine blk_drew ?_ | refine blk_alloc ?_ _)); refine blk_put (cs := #[.int .i64 ((rd_T39 l1 x7_1).f0), .int .i64 ((rd_T39 l1 x7_1).f1), .string ((rd_T39 l1 x7_1).f2), .string ((rd_T39 l1 x7_1).f3), .bool ((rd_T39 l1 x7_1).f4), .bool false, .slice none 0 0, .slice none 0 0]) ?_ 5 _ rfl; (with_reducible repeat (first | refine blk_drewN ?_ _ | refine blk_drew ?_ | refine blk_alloc ?_ _)); refine blk_put (cs := #[.int .i64 ((rd_T39 l1 x7_1).f0), .int .i64 ((rd_T39 l1 x7_1).f1), .string ((rd_T39 l1 x7_1).f2), .string ((rd_T39 l1 x7_1).f3), .bool false, .bool false, .slice none 0 0, .slice none 0 0]) ?_ 4 _ rfl; (with_reducible repeat (first | refine blk_drewN ?_ _ | refine blk_drew ?_ | refine blk_alloc ?_ _)); refine blk_put (cs := #[.int .i64 ((rd_T39 l1 x7_1).f0), .int .i64 ((rd_T39 l1 x7_1).f1), .string ((rd_T39 l1 x7_1).f2), .string (⟨#[]⟩ : ByteArray), .bool false, .bool false, .slice none 0 0, .slice none 0 0]) ?_ 3 _ rfl; (with_reducible repeat (first | refine blk_drewN ?_ _ | refine blk_drew ?_ | refine blk_alloc ?_ _)); refine blk_put (cs := #[.int .i64 ((rd_T39 l1 x7_1).f0), .int .i64 ((rd_T39 l1 x7_1).f1), .string (⟨#[]⟩ : ByteArray), .string (⟨#[]⟩ : ByteArray), .bool false, .bool false, .slice none 0 0, .slice none 0 0]) ?_ 2 _ rfl; (with_reducible repeat (first | refine blk_drewN ?_ _ | refine blk_drew ?_ | refine blk_alloc ?_ _)); refine blk_put (cs := #[.int .i64 ((rd_T39 l1 x7_1).f0), .int .i64 0, .string (⟨#[]⟩ : ByteArray), .string (⟨#[]⟩ : ByteArray), .bool false, .bool false, .slice none 0 0, .slice none 0 0]) ?_ 1 _ rfl; (with_reducible repeat (first | refine blk_drewN ?_ _ | refine blk_drew ?_ | refine blk_alloc ?_ _)); refine blk_put (cs := #[.int .i64 0, .int .i64 0, .string (⟨#[]⟩ : ByteArray), .string (⟨#[]⟩ : ByteArray), .bool false, .bool false, .slice none 0 0, .slice none 0 0]) ?_ 0 _ rfl; (with_reducible repeat (first | refine blk_drewN ?_ _ | refine blk_drew ?_ | refine blk_alloc ?_ _)); exact BK120.out⟩, ⟨by repeat (first | (with_reducible first | exact HB.out | apply below_alloc | apply pw_below_drewN | apply below_drew1 | refine below_set ?_ GE118.out | refine below_set ?_ GE120.out) | exact HB.out)⟩⟩
                    · rw [if_neg c16] at H
                      have c16b0 : (((rd_T39 l0 x7_1).f1) == ((rd_T39 l1 x7_1).f1)) = false := beq_eq_false_iff_ne.mpr c16
                      have c16b1 : (((rd_T39 l0 x7_1).f1) != ((rd_T39 l1 x7_1).f1)) = true := bne_iff_ne.mpr c16
                      have H' := Aside0.mk H
                      clear H
                      have hnb32 := NB118_120.out
                      have hnc32 := NB120_118.out
                      have hcz33_0 : w11.cell? ⟨gb118, 0, none⟩ = some (.int .i64 ((rd_T39 l0 x7_1).f0)) := (blk_cell BK118.out 0).trans rfl
                      have hcz33_1 : w11.cell? ⟨gb118, 1, none⟩ = some (.int .i64 ((rd_T39 l0 x7_1).f1)) := (blk_cell BK118.out 1).trans rfl
                      have hcz33_2 : w11.cell? ⟨gb118, 2, none⟩ = some (.string ((rd_T39 l0 x7_1).f2)) := (blk_cell BK118.out 2).trans rfl
                      have hcz33_3 : w11.cell? ⟨gb118, 3, none⟩ = some (.string ((rd_T39 l0 x7_1).f3)) := (blk_cell BK118.out 3).trans rfl
                      have hcz33_4 : w11.cell? ⟨gb118, 4, none⟩ = some (.bool ((rd_T39 l0 x7_1).f4)) := (blk_cell BK118.out 4).trans rfl
                      have hcz33_5 : w11.cell? ⟨gb118, 5, none⟩ = some (.bool ((rd_T39 l0 x7_1).f5)) := (blk_cell BK118.out 5).trans rfl
                      have hcz33_6 : w11.cell? ⟨gb118, 6, none⟩ = some (.slice A117_6 ((rd_T39 l0 x7_1).f6).length c117_6) := (blk_cell BK118.out 6).trans rfl
                      have hcz33_7 : w11.cell? ⟨gb118, 7, none⟩ = some (.slice A117_7 ((rd_T39 l0 x7_1).f7).length c117_7) := (blk_cell BK118.out 7).trans rfl
                      have hfz33_0 := blk_frozen BK118.out 0
                      have hfz33_1 := blk_frozen BK118.out 1
                      have hfz33_2 := blk_frozen BK118.out 2
                      have hfz33_3 := blk_frozen BK118.out 3
                      have hfz33_4 := blk_frozen BK118.out 4
                      have hfz33_5 := blk_frozen BK118.out 5
                      have hfz33_6 := blk_frozen BK118.out 6
                      have hfz33_7 := blk_frozen BK118.out 7
                      have hcz34_0 : w11.cell? ⟨gb120, 0, none⟩ = some (.int .i64 0) := (blk_cell BK120.out 0).trans rfl
                      have hcz34_1 : w11.cell? ⟨gb120, 1, none⟩ = some (.int .i64 0) := (blk_cell BK120.out 1).trans rfl
                      have hcz34_2 : w11.cell? ⟨gb120, 2, none⟩ = some (.string (⟨#[]⟩ : ByteArray)) := (blk_cell BK120.out 2).trans rfl
                      have hcz34_3 : w11.cell? ⟨gb120, 3, none⟩ = some (.string (⟨#[]⟩ : ByteArray)) := (blk_cell BK120.out 3).trans rfl
                      have hcz34_4 : w11.cell? ⟨gb120, 4, none⟩ = some (.bool false) := (blk_cell BK120.out 4).trans rfl
                      have hcz34_5 : w11.cell? ⟨gb120, 5, none⟩ = some (.bool false) := (blk_cell BK120.out 5).trans rfl
                      have hcz34_6 : w11.cell? ⟨gb120, 6, none⟩ = some (.slice none 0 0) := (blk_cell BK120.out 6).trans rfl
                      have hcz34_7 : w11.cell? ⟨gb120, 7, none⟩ = some (.slice none 0 0) := (blk_cell BK120.out 7).trans rfl
                      have hfz34_0 := blk_frozen BK120.out 0
                      have hfz34_1 := blk_frozen BK120.out 1
                      have hfz34_2 := blk_frozen BK120.out 2
                      have hfz34_3 := blk_frozen BK120.out 3
                      have hfz34_4 := blk_frozen BK120.out 4
                      have hfz34_5 := blk_frozen BK120.out 5
                      have hfz34_6 := blk_frozen BK120.out 6
                      have hfz34_7 := blk_frozen BK120.out 7
                      go_wp2
                      go_meet
                      case rel => exact ⟨_, (true), (by first | rfl | (simp; done) | (simp [*]; done)), H', ⟨by have := HK1.out; first | omega | exact Nat.le_refl _⟩, ⟨by (with_reducible repeat (first | refine blk_drewN ?_ _ | refine blk_drew ?_ | refine blk_alloc ?_ _)); refine blk_far ?_ NB118_120.out _; (with_reducible repeat (first | refine blk_drewN ?_ _ | refine blk_drew ?_ | refine blk_alloc ?_ _)); refine blk_far ?_ NB118_120.out _; (with_reducible repeat (first | refine blk_drewN ?_ _ | refine blk_drew ?_ | refine blk_alloc ?_ _)); refine blk_far ?_ NB118_120.out _; (with_reducible repeat (first | refine blk_drewN ?_ _ | refine blk_drew ?_ | refine blk_alloc ?_ _)); refine blk_far ?_ NB118_120.out _; (with_reducible repeat (first | refine blk_drewN ?_ _ | refine blk_drew ?_ | refine blk_alloc ?_ _)); refine blk_far ?_ NB118_120.out _; (with_reducible repeat (first | refine blk_drewN ?_ _ | refine blk_drew ?_ | refine blk_alloc ?_ _)); refine blk_far ?_ NB118_120.out _; (with_reducible repeat (first | refine blk_drewN ?_ _ | refine blk_drew ?_ | refine blk_alloc ?_ _)); refine blk_far ?_ NB118_120.out _; (with_reducible repeat (first | refine blk_drewN ?_ _ | refine blk_drew ?_ | refine blk_alloc ?_ _)); refine blk_far ?_ NB118_120.out _; (with_reducible repeat (first | refine blk_drewN ?_ _ | refine blk_drew ?_ | refine blk_alloc ?_ _)); exact BK118.out⟩, ⟨by (with_reducible repeat (first | refine blk_drewN ?_ _ | refine blk_drew ?_ | refine blk_alloc ?_ _)); refine blk_put (cs := #[.int .i64 ((rd_T39 l1 x7_1).f0), .int .i64 ((rd_T39 l1 x7_1).f1), .string ((rd_T39 l1 x7_1).f2), .string ((rd_T39 l1 x7_1).f3), .bool ((rd_T39 l1 x7_1).f4), .bool ((rd_T39 l1 x7_1).f5), .slice A119_6 ((rd_T39 l1 x7_1).f6).length c119_6, .slice none 0 0]) ?_ 7 _ rfl; (with_reducible repeat (first | refine blk_drewN ?_ _ | refine blk_drew ?_ | refine blk_alloc ?_ _)); refine blk_put (cs := #[.int .i64 ((rd_T39 l1 x7_1).f0), .int .i64 ((rd_T39 l1 x7_1).f1), .string ((rd_T39 l1 x7_1).f2), .string ((rd_T39 l1 x7_1).f3), .bool ((rd_T39 l1 x7_1).f4), .bool ((rd_T39 l1 x7_1).f5), .slice none 0 0, .slice none 0 0]) ?_ 6 _ rfl; (with_reducible repeat (first | refine blk_drewN ?_ _ | refine blk_drew ?_ | refine blk_alloc ?_ _)); refine blk_put (cs := #[.int .i64 ((rd_T39 l1 x7_1).f0), .int .i64 ((rd_T39 l1 x7_1).f1), .string ((rd_T39 l1 x7_1).f2), .string ((rd_T39 l1 x7_1).f3), .bool ((rd_T39 l1 x7_1).f4), .bool false, .slice none 0 0, .slice none 0 0]) ?_ 5 _ rfl; (with_reducible repeat (first | refine blk_drewN ?_ _ | refine blk_drew ?_ | refine blk_alloc ?_ _)); refine blk_put (cs := #[.int .i64 ((rd_T39 l1 x7_1).f0), .int .i64 ((rd_T39 l1 x7_1).f1), .string ((rd_T39 l1 x7_1).f2), .string ((rd_T39 l1 x7_1).f3), .bool false, .bool false, .slice none 0 0, .slice none 0 0]) ?_ 4 _ rfl; (with_reducible repeat (first | refine blk_drewN ?_ _ | refine blk_drew ?_ | refine blk_alloc ?_ _)); refine blk_put (cs := #[.int .i64 ((rd_T39 l1 x7_1).f0), .int .i64 ((rd_T39 l1 x7_1).f1), .string ((rd_T39 l1 x7_1).f2), .string (⟨#[]⟩ : ByteArray), .bool false, .bool false, .slice none 0 0, .slice none 0 0]) ?_ 3 _ rfl; (with_reducible repeat (first | refine blk_drewN ?_ _ | refine blk_drew ?_ | refine blk_alloc ?_ _)); refine blk_put (cs := #[.int .i64 ((rd_T39 l1 x7_1).f0), .int .i64 ((rd_T39 l1 x7_1).f1), .string (⟨#[]⟩ : ByteArray), .string (⟨#[]⟩ : ByteArray), .bool false, .bool false, .slice none 0 0, .slice none 0 0]) ?_ 2 _ rfl; (with_reducible repeat (first | refine blk_drewN ?_ _ | refine blk_drew ?_ | refine blk_alloc ?_ _)); refine blk_put (cs := #[.int .i64 ((rd_T39 l1 x7_1).f0), .int .i64 0, .string (⟨#[]⟩ : ByteArray), .string (⟨#[]⟩ : ByteArray), .bool false, .bool false, .slice none 0 0, .slice none 0 0]) ?_ 1 _ rfl; (with_reducible repeat (first | refine blk_drewN ?_ _ | refine blk_drew ?_ | refine blk_alloc ?_ _)); refine blk_put (cs := #[.int .i64 0, .int .i64 0, .string (⟨#[]⟩ : ByteArray), .string (⟨#[]⟩ : ByteArray), .bool false, .bool false, .slice none 0 0, .slice none 0 0]) ?_ 0 _ rfl; (with_reducible repeat (first | refine blk_drewN ?_ _ | refine blk_drew ?_ | refine blk_alloc ?_ _)); exact BK120.out⟩, ⟨by repeat (first | (with_reducible first | exact HB.out | apply below_alloc | apply pw_below_drewN | apply below_drew1 | refine below_set ?_ GE118.out | refine below_set ?_ GE120.out) | exact HB.out)⟩⟩
                  · replace c15 := Bool.eq_false_iff.mpr c15
                    subst c15
                    have H1 : (if ((rd_T39 l0 x7_1).f2).toList = ((rd_T39 l1 x7_1).f2).toList then (if ((rd_T39 l0 x7_1).f3).toList = ((rd_T39 l1 x7_1).f3).toList then (if (((rd_T39 l0 x7_1).f4) != ((rd_T39 l1 x7_1).f4)) = true then (tmplpiperef12_Equal.j1 k1 l0 l1 false x7_1 true ((rd_T39 l0 x7_1).f0) ((rd_T39 l0 x7_1).f1) ((rd_T39 l0 x7_1).f2) ((rd_T39 l0 x7_1).f3) ((rd_T39 l0 x7_1).f4) ((rd_T39 l0 x7_1).f5) ((rd_T39 l0 x7_1).f6) ((rd_T39 l0 x7_1).f7) ((rd_T39 l1 x7_1).f0) ((rd_T39 l1 x7_1).f1) ((rd_T39 l1 x7_1).f2) ((rd_T39 l1 x7_1).f3) ((rd_T39 l1 x7_1).f4) ((rd_T39 l1 x7_1).f5) ((rd_T39 l1 x7_1).f6) ((rd_T39 l1 x7_1).f7)) else (tmplpiperef12_Equal.j1 k1 l0 l1 false x7_1 (((rd_T39 l0 x7_1).f5) != ((rd_T39 l1 x7_1).f5)) ((rd_T39 l0 x7_1).f0) ((rd_T39 l0 x7_1).f1) ((rd_T39 l0 x7_1).f2) ((rd_T39 l0 x7_1).f3) ((rd_T39 l0 x7_1).f4) ((rd_T39 l0 x7_1).f5) ((rd_T39 l0 x7_1).f6) ((rd_T39 l0 x7_1).f7) ((rd_T39 l1 x7_1).f0) ((rd_T39 l1 x7_1).f1) ((rd_T39 l1 x7_1).f2) ((rd_T39 l1 x7_1).f3) ((rd_T39 l1 x7_1).f4) ((rd_T39 l1 x7_1).f5) ((rd_T39 l1 x7_1).f6) ((rd_T39 l1 x7_1).f7))) else (tmplpiperef12_Equal.j1 k1 l0 l1 false x7_1 true ((rd_T39 l0 x7_1).f0) ((rd_T39 l0 x7_1).f1) ((rd_T39 l0 x7_1).f2) ((rd_T39 l0 x7_1).f3) ((rd_T39 l0 x7_1).f4) ((rd_T39 l0 x7_1).f5) ((rd_T39 l0 x7_1).f6) ((rd_T39 l0 x7_1).f7) ((rd_T39 l1 x7_1).f0) ((rd_T39 l1 x7_1).f1) ((rd_T39 l1 x7_1).f2) ((rd_T39 l1 x7_1).f3) ((rd_T39 l1 x7_1).f4) ((rd_T39 l1 x7_1).f5) ((rd_T39 l1 x7_1).f6) ((rd_T39 l1 x7_1).f7))) else (tmplpiperef12_Equal.j1 k1 l0 l1 false x7_1 true ((rd_T39 l0 x7_1).f0) ((rd_T39 l0 x7_1).f1) ((rd_T39 l0 x7_1).f2) ((rd_T39 l0 x7_1).f3) ((rd_T39 l0 x7_1).f4) ((rd_T39 l0 x7_1).f5) ((rd_T39 l0 x7_1).f6) ((rd_T39 l0 x7_1).f7) ((rd_T39 l1 x7_1).f0) ((rd_T39 l1 x7_1).f1) ((rd_T39 l1 x7_1).f2) ((rd_T39 l1 x7_1).f3) ((rd_T39 l1 x7_1).f4) ((rd_T39 l1 x7_1).f5) ((rd_T39 l1 x7_1).f6) ((rd_T39 l1 x7_1).f7))) = some r := by rw [if_neg (show ¬ (false = true) by decide)] at H; exact H
                    clear H
                    have H := H1
                    clear H1
                    by_cases c35 : ((rd_T39 l0 x7_1).f2).toList = ((rd_T39 l1 x7_1).f2).toList
                    · rw [if_pos c35] at H
                      have c35b0 : (((rd_T39 l0 x7_1).f2).toList == ((rd_T39 l1 x7_1).f2).toList) = true := beq_iff_eq.mpr c35
                      have c35b1 : (((rd_T39 l0 x7_1).f2).toList != ((rd_T39 l1 x7_1).f2).toList) = false := bne_eq_false_iff_eq.mpr c35
                      clear c35
                      by_cases c36 : ((rd_T39 l0 x7_1).f3).toList = ((rd_T39 l1 x7_1).f3).toList
                      · rw [if_pos c36] at H
                        have c36b0 : (((rd_T39 l0 x7_1).f3).toList == ((rd_T39 l1 x7_1).f3).toList) = true := beq_iff_eq.mpr c36
                        have c36b1 : (((rd_T39 l0 x7_1).f3).toList != ((rd_T39 l1 x7_1).f3).toList) = false := bne_eq_false_iff_eq.mpr c36
                        clear c36
                        by_cases c37 : (((rd_T39 l0 x7_1).f4) != ((rd_T39 l1 x7_1).f4)) = true
                        · rw [if_pos c37] at H
                          have c37b0 : (((rd_T39 l0 x7_1).f4) != ((rd_T39 l1 x7_1).f4)) = true := c37
                          (try (have c37b1 : decide (((rd_T39 l0 x7_1).f4) = ((rd_T39 l1 x7_1).f4)) = false := by simpa using c37))
                          (try (have c37b2 : (((rd_T39 l0 x7_1).f4) == ((rd_T39 l1 x7_1).f4)) = false := by simpa using c37))
                          (try (have c37b3 : ¬ (((rd_T39 l0 x7_1).f4) = ((rd_T39 l1 x7_1).f4)) := by simpa using c37))
                          clear c37
                          have H' := Aside0.mk H
                          clear H
                          have hnb38 := NB118_120.out
                          have hnc38 := NB120_118.out
                          have hcz39_0 : w11.cell? ⟨gb118, 0, none⟩ = some (.int .i64 ((rd_T39 l0 x7_1).f0)) := (blk_cell BK118.out 0).trans rfl
                          have hcz39_1 : w11.cell? ⟨gb118, 1, none⟩ = some (.int .i64 ((rd_T39 l0 x7_1).f1)) := (blk_cell BK118.out 1).trans rfl
                          have hcz39_2 : w11.cell? ⟨gb118, 2, none⟩ = some (.string ((rd_T39 l0 x7_1).f2)) := (blk_cell BK118.out 2).trans rfl
                          have hcz39_3 : w11.cell? ⟨gb118, 3, none⟩ = some (.string ((rd_T39 l0 x7_1).f3)) := (blk_cell BK118.out 3).trans rfl
                          have hcz39_4 : w11.cell? ⟨gb118, 4, none⟩ = some (.bool ((rd_T39 l0 x7_1).f4)) := (blk_cell BK118.out 4).trans rfl
                          have hcz39_5 : w11.cell? ⟨gb118, 5, none⟩ = some (.bool ((rd_T39 l0 x7_1).f5)) := (blk_cell BK118.out 5).trans rfl
                          have hcz39_6 : w11.cell? ⟨gb118, 6, none⟩ = some (.slice A117_6 ((rd_T39 l0 x7_1).f6).length c117_6) := (blk_cell BK118.out 6).trans rfl
                          have hcz39_7 : w11.cell? ⟨gb118, 7, none⟩ = some (.slice A117_7 ((rd_T39 l0 x7_1).f7).length c117_7) := (blk_cell BK118.out 7).trans rfl
                          have hfz39_0 := blk_frozen BK118.out 0
                          have hfz39_1 := blk_frozen BK118.out 1
                          have hfz39_2 := blk_frozen BK118.out 2
                          have hfz39_3 := blk_frozen BK118.out 3
                          have hfz39_4 := blk_frozen BK118.out 4
                          have hfz39_5 := blk_frozen BK118.out 5
                          have hfz39_6 := blk_frozen BK118.out 6
                          have hfz39_7 := blk_frozen BK118.out 7
                          have hcz40_0 : w11.cell? ⟨gb120, 0, none⟩ = some (.int .i64 0) := (blk_cell BK120.out 0).trans rfl
                          have hcz40_1 : w11.cell? ⟨gb120, 1, none⟩ = some (.int .i64 0) := (blk_cell BK120.out 1).trans rfl
                          have hcz40_2 : w11.cell? ⟨gb120, 2, none⟩ = some (.string (⟨#[]⟩ : ByteArray)) := (blk_cell BK120.out 2).trans rfl
                          have hcz40_3 : w11.cell? ⟨gb120, 3, none⟩ = some (.string (⟨#[]⟩ : ByteArray)) := (blk_cell BK120.out 3).trans rfl
                          have hcz40_4 : w11.cell? ⟨gb120, 4, none⟩ = some (.bool false) := (blk_cell BK120.out 4).trans rfl
                          have hcz40_5 : w11.cell? ⟨gb120, 5, none⟩ = some (.bool false) := (blk_cell BK120.out 5).trans rfl
                          have hcz40_6 : w11.cell? ⟨gb120, 6, none⟩ = some (.slice none 0 0) := (blk_cell BK120.out 6).trans rfl
                          have hcz40_7 : w11.cell? ⟨gb120, 7, none⟩ = some (.slice none 0 0) := (blk_cell BK120.out 7).trans rfl
                          have hfz40_0 := blk_frozen BK120.out 0
                          have hfz40_1 := blk_frozen BK120.out 1
                          have hfz40_2 := blk_frozen BK120.out 2
                          have hfz40_3 := blk_frozen BK120.out 3
                          have hfz40_4 := blk_frozen BK120.out 4
                          have hfz40_5 := blk_frozen BK120.out 5
                          have hfz40_6 := blk_frozen BK120.out 6
                          have hfz40_7 := blk_frozen BK120.out 7
                          go_wp2
                          go_meet
                          case rel => exact ⟨_, (true), (by first | rfl | (simp; done) | (simp [*]; done)), H', ⟨by have := HK1.out; first | omega | exact Nat.le_refl _⟩, ⟨by (with_reducible repeat (first | refine blk_drewN ?_ _ | refine blk_drew ?_ | refine blk_alloc ?_ _)); refine blk_far ?_ NB118_120.out _; (with_reducible repeat (first | refine blk_drewN ?_ _ | refine blk_drew ?_ | refine blk_alloc ?_ _)); refine blk_far ?_ NB118_120.out _; (with_reducible repeat (first | refine blk_drewN ?_ _ | refine blk_drew ?_ | refine blk_alloc ?_ _)); refine blk_far ?_ NB118_120.out _; (with_reducible repeat (first | refine blk_drewN ?_ _ | refine blk_drew ?_ | refine blk_alloc ?_ _)); refine blk_far ?_ NB118_120.out _; (with_reducible repeat (first | refine blk_drewN ?_ _ | refine blk_drew ?_ | refine blk_alloc ?_ _)); refine blk_far ?_ NB118_120.out _; (with_reducible repeat (first | refine blk_drewN ?_ _ | refine blk_drew ?_ | refine blk_alloc ?_ _)); refine blk_far ?_ NB118_120.out _; (with_reducible repeat (first | refine blk_drewN ?_ _ | refine blk_drew ?_ | refine blk_alloc ?_ _)); refine blk_far ?_ NB118_120.out _; (with_reducible repeat (first | refine blk_drewN ?_ _ | refine blk_drew ?_ | refine blk_alloc ?_ _)); refine blk_far ?_ NB118_120.out _; (with_reducible repeat (first | refine blk_drewN ?_ _ | refine blk_drew ?_ | refine blk_alloc ?_ _)); exact BK118.out⟩, ⟨by (with_reducible repeat (first | refine blk_drewN ?_ _ | refine blk_drew ?_ | refine blk_alloc ?_ _)); refine blk_put (cs := #[.int .i64 ((rd_T39 l1 x7_1).f0), .int .i64 ((rd_T39 l1 x7_1).f1), .string ((rd_T39 l1 x7_1).f2), .string ((rd_T39 l1 x7_1).f3), .bool ((rd_T39 l1 x7_1).f4), .bool ((rd_T39 l1 x7_1).f5), .slice A119_6 ((rd_T39 l1 x7_1).f6).length c119_6, .slice none 0 0]) ?_ 7 _ rfl; (with_reducible repeat (first | refine blk_drewN ?_ _ | refine blk_drew ?_ | refine blk_alloc ?_ _)); refine blk_put (cs := #[.int .i64 ((rd_T39 l1 x7_1).f0), .int .i64 ((rd_T39 l1 x7_1).f1), .string ((rd_T39 l1 x7_1).f2), .string ((rd_T39 l1 x7_1).f3), .bool ((rd_T39 l1 x7_1).f4), .bool ((rd_T39 l1 x7_1).f5), .slice none 0 0, .slice none 0 0]) ?_ 6 _ rfl; (with_reducible repeat (first | refine blk_drewN ?_ _ | refine blk_drew ?_ | refine blk_alloc ?_ _)); refine blk_put (cs := #[.int .i64 ((rd_T39 l1 x7_1).f0), .int .i64 ((rd_T39 l1 x7_1).f1), .string ((rd_T39 l1 x7_1).f2), .string ((rd_T39 l1 x7_1).f3), .bool ((rd_T39 l1 x7_1).f4), .bool false, .slice none 0 0, .slice none 0 0]) ?_ 5 _ rfl; (with_reducible repeat (first | refine blk_drewN ?_ _ | refine blk_drew ?_ | refine blk_alloc ?_ _)); refine blk_put (cs := #[.int .i64 ((rd_T39 l1 x7_1).f0), .int .i64 ((rd_T39 l1 x7_1).f1), .string ((rd_T39 l1 x7_1).f2), .string ((rd_T39 l1 x7_1).f3), .bool false, .bool false, .slice none 0 0, .slice none 0 0]) ?_ 4 _ rfl; (with_reducible repeat (first | refine blk_drewN ?_ _ | refine blk_drew ?_ | refine blk_alloc ?_ _)); refine blk_put (cs := #[.int .i64 ((rd_T39 l1 x7_1).f0), .int .i64 ((rd_T39 l1 x7_1).f1), .string ((rd_T39 l1 x7_1).f2), .string (⟨#[]⟩ : ByteArray), .bool false, .bool false, .slice none 0 0, .slice none 0 0]) ?_ 3 _ rfl; (with_reducible repeat (first | refine blk_drewN ?_ _ | refine blk_drew ?_ | refine blk_alloc ?_ _)); refine blk_put (cs := #[.int .i64 ((rd_T39 l1 x7_1).f0), .int .i64 ((rd_T39 l1 x7_1).f1), .string (⟨#[]⟩ : ByteArray), .string (⟨#[]⟩ : ByteArray), .bool false, .bool false, .slice none 0 0, .slice none 0 0]) ?_ 2 _ rfl; (with_reducible repeat (first | refine blk_drewN ?_ _ | refine blk_drew ?_ | refine blk_alloc ?_ _)); refine blk_put (cs := #[.int .i64 ((rd_T39 l1 x7_1).f0), .int .i64 0, .string (⟨#[]⟩ : ByteArray), .string (⟨#[]⟩ : ByteArray), .bool false, .bool false, .slice none 0 0, .slice none 0 0]) ?_ 1 _ rfl; (with_reducible repeat (first | refine blk_drewN ?_ _ | refine blk_drew ?_ | refine blk_alloc ?_ _)); refine blk_put (cs := #[.int .i64 0, .int .i64 0, .string (⟨#[]⟩ : ByteArray), .string (⟨#[]⟩ : ByteArray), .bool false, .bool false, .slice none 0 0, .slice none 0 0]) ?_ 0 _ rfl; (with_reducible repeat (first | refine blk_drewN ?_ _ | refine blk_drew ?_ | refine blk_alloc ?_ _)); exact BK120.out⟩, ⟨by repeat (first | (with_reducible first | exact HB.out | apply below_alloc | apply pw_below_drewN | apply below_drew1 | refine below_set ?_ GE118.out | refine below_set ?_ GE120.out) | exact HB.out)⟩⟩
                        · rw [if_neg c37] at H
                          have c37b0 : (((rd_T39 l0 x7_1).f4) != ((rd_T39 l1 x7_1).f4)) = false := by simpa using c37
                          (try (have c37b1 : decide (((rd_T39 l0 x7_1).f4) = ((rd_T39 l1 x7_1).f4)) = true := by simpa using c37))
                          (try (have c37b2 : (((rd_T39 l0 x7_1).f4) == ((rd_T39 l1 x7_1).f4)) = true := by simpa using c37))
                          clear c37
                          have H' := Aside0.mk H
                          clear H
                          have hnb41 := NB118_120.out
                          have hnc41 := NB120_118.out
                          have hcz42_0 : w11.cell? ⟨gb118, 0, none⟩ = some (.int .i64 ((rd_T39 l0 x7_1).f0)) := (blk_cell BK118.out 0).trans rfl
                          have hcz42_1 : w11.cell? ⟨gb118, 1, none⟩ = some (.int .i64 ((rd_T39 l0 x7_1).f1)) := (blk_cell BK118.out 1).trans rfl
                          have hcz42_2 : w11.cell? ⟨gb118, 2, none⟩ = some (.string ((rd_T39 l0 x7_1).f2)) := (blk_cell BK118.out 2).trans rfl
                          have hcz42_3 : w11.cell? ⟨gb118, 3, none⟩ = some (.string ((rd_T39 l0 x7_1).f3)) := (blk_cell BK118.out 3).trans rfl
                          have hcz42_4 : w11.cell? ⟨gb118, 4, none⟩ = some (.bool ((rd_T39 l0 x7_1).f4)) := (blk_cell BK118.out 4).trans rfl
                          have hcz42_5 : w11.cell? ⟨gb118, 5, none⟩ = some (.bool ((rd_T39 l0 x7_1).f5)) := (blk_cell BK118.out 5).trans rfl
                          have hcz42_6 : w11.cell? ⟨gb118, 6, none⟩ = some (.slice A117_6 ((rd_T39 l0 x7_1).f6).length c117_6) := (blk_cell BK118.out 6).trans rfl
                          have hcz42_7 : w11.cell? ⟨gb118, 7, none⟩ = some (.slice A117_7 ((rd_T39 l0 x7_1).f7).length c117_7) := (blk_cell BK118.out 7).trans rfl
                          have hfz42_0 := blk_frozen BK118.out 0
                          have hfz42_1 := blk_frozen BK118.out 1
                          have hfz42_2 := blk_frozen BK118.out 2
                          have hfz42_3 := blk_frozen BK118.out 3
                          have hfz42_4 := blk_frozen BK118.out 4
                          have hfz42_5 := blk_frozen BK118.out 5
                          have hfz42_6 := blk_frozen BK118.out 6
                          have hfz42_7 := blk_frozen BK118.out 7
                          have hcz43_0 : w11.cell? ⟨gb120, 0, none⟩ = some (.int .i64 0) := (blk_cell BK120.out 0).trans rfl
                          have hcz43_1 : w11.cell? ⟨gb120, 1, none⟩ = some (.int .i64 0) := (blk_cell BK120.out 1).trans rfl
                          have hcz43_2 : w11.cell? ⟨gb120, 2, none⟩ = some (.string (⟨#[]⟩ : ByteArray)) := (blk_cell BK120.out 2).trans rfl
                          have hcz43_3 : w11.cell? ⟨gb120, 3, none⟩ = some (.string (⟨#[]⟩ : ByteArray)) := (blk_cell BK120.out 3).trans rfl
                          have hcz43_4 : w11.cell? ⟨gb120, 4, none⟩ = some (.bool false) := (blk_cell BK120.out 4).trans rfl
                          have hcz43_5 : w11.cell? ⟨gb120, 5, none⟩ = some (.bool false) := (blk_cell BK120.out 5).trans rfl
                          have hcz43_6 : w11.cell? ⟨gb120, 6, none⟩ = some (.slice none 0 0) := (blk_cell BK120.out 6).trans rfl
                          have hcz43_7 : w11.cell? ⟨gb120, 7, none⟩ = some (.slice none 0 0) := (blk_cell BK120.out 7).trans rfl
                          have hfz43_0 := blk_frozen BK120.out 0
                          have hfz43_1 := blk_frozen BK120.out 1
                          have hfz43_2 := blk_frozen BK120.out 2
                          have hfz43_3 := blk_frozen BK120.out 3
                          have hfz43_4 := blk_frozen BK120.out 4
                          have hfz43_5 := blk_frozen BK120.out 5
                          have hfz43_6 := blk_frozen BK120.out 6
                          have hfz43_7 := blk_frozen BK120.out 7
                          go_wp2
                          go_meet
                          case rel => exact ⟨_, ((((rd_T39 l0 x7_1).f5) != ((rd_T39 l1 x7_1).f5))), (by first | rfl | (simp; done) | (simp [*]; done)), H', ⟨by have := HK1.out; first | omega | exact Nat.le_refl _⟩, ⟨by (with_reducible repeat (first | refine blk_drewN ?_ _ | refine blk_drew ?_ | refine blk_alloc ?_ _)); refine blk_far ?_ NB118_120.out _; (with_reducible repeat (first | refine blk_drewN ?_ _ | refine blk_drew ?_ | refine blk_alloc ?_ _)); refine blk_far ?_ NB118_120.out _; (with_reducible repeat (first | refine blk_drewN ?_ _ | refine blk_drew ?_ | refine blk_alloc ?_ _)); refine blk_far ?_ NB118_120.out _; (with_reducible repeat (first | refine blk_drewN ?_ _ | refine blk_drew ?_ | refine blk_alloc ?_ _)); refine blk_far ?_ NB118_120.out _; (with_reducible repeat (first | refine blk_drewN ?_ _ | refine blk_drew ?_ | refine blk_alloc ?_ _)); refine blk_far ?_ NB118_120.out _; (with_reducible repeat (first | refine blk_drewN ?_ _ | refine blk_drew ?_ | refine blk_alloc ?_ _)); refine blk_far ?_ NB118_120.out _; (with_reducible repeat (first | refine blk_drewN ?_ _ | refine blk_drew ?_ | refine blk_alloc ?_ _)); refine blk_far ?_ NB118_120.out _; (with_reducible repeat (first | refine blk_drewN ?_ _ | refine blk_drew ?_ | refine blk_alloc ?_ _)); refine blk_far ?_ NB118_120.out _; (with_reducible repeat (first | refine blk_drewN ?_ _ | refine blk_drew ?_ | refine blk_alloc ?_ _)); exact BK118.out⟩, ⟨by (with_reducible repeat (first | refine blk_drewN ?_ _ | refine blk_drew ?_ | refine blk_alloc ?_ _)); refine blk_put (cs := #[.int .i64 ((rd_T39 l1 x7_1).f0), .int .i64 ((rd_T39 l1 x7_1).f1), .string ((rd_T39 l1 x7_1).f2), .string ((rd_T39 l1 x7_1).f3), .bool ((rd_T39 l1 x7_1).f4), .bool ((rd_T39 l1 x7_1).f5), .slice A119_6 ((rd_T39 l1 x7_1).f6).length c119_6, .slice none 0 0]) ?_ 7 _ rfl; (with_reducible repeat (first | refine blk_drewN ?_ _ | refine blk_drew ?_ | refine blk_alloc ?_ _)); refine blk_put (cs := #[.int .i64 ((rd_T39 l1 x7_1).f0), .int .i64 ((rd_T39 l1 x7_1).f1), .string ((rd_T39 l1 x7_1).f2), .string ((rd_T39 l1 x7_1).f3), .bool ((rd_T39 l1 x7_1).f4), .bool ((rd_T39 l1 x7_1).f5), .slice none 0 0, .slice none 0 0]) ?_ 6 _ rfl; (with_reducible repeat (first | refine blk_drewN ?_ _ | refine blk_drew ?_ | refine blk_alloc ?_ _)); refine blk_put (cs := #[.int .i64 ((rd_T39 l1 x7_1).f0), .int .i64 ((rd_T39 l1 x7_1).f1), .string ((rd_T39 l1 x7_1).f2), .string ((rd_T39 l1 x7_1).f3), .bool ((rd_T39 l1 x7_1).f4), .bool false, .slice none 0 0, .slice none 0 0]) ?_ 5 _ rfl; (with_reducible repeat (first | refine blk_drewN ?_ _ | refine blk_drew ?_ | refine blk_alloc ?_ _)); refine blk_put (cs := #[.int .i64 ((rd_T39 l1 x7_1).f0), .int .i64 ((rd_T39 l1 x7_1).f1), .string ((rd_T39 l1 x7_1).f2), .string ((rd_T39 l1 x7_1).f3), .bool false, .bool false, .slice none 0 0, .slice none 0 0]) ?_ 4 _ rfl; (with_reducible repeat (first | refine blk_drewN ?_ _ | refine blk_drew ?_ | refine blk_alloc ?_ _)); refine blk_put (cs := #[.int .i64 ((rd_T39 l1 x7_1).f0), .int .i64 ((rd_T39 l1 x7_1).f1), .string ((rd_T39 l1 x7_1).f2), .string (⟨#[]⟩ : ByteArray), .bool false, .bool false, .slice none 0 0, .slice none 0 0]) ?_ 3 _ rfl; (with_reducible repeat (first | refine blk_drewN ?_ _ | refine blk_drew ?_ | refine blk_alloc ?_ _)); refine blk_put (cs := #[.int .i64 ((rd_T39 l1 x7_1).f0), .int .i64 ((rd_T39 l1 x7_1).f1), .string (⟨#[]⟩ : ByteArray), .string (⟨#[]⟩ : ByteArray), .bool false, .bool false, .slice none 0 0, .slice none 0 0]) ?_ 2 _ rfl; (with_reducible repeat (first | refine blk_drewN ?_ _ | refine blk_drew ?_ | refine blk_alloc ?_ _)); refine blk_put (cs := #[.int .i64 ((rd_T39 l1 x7_1).f0), .int .i64 0, .string (⟨#[]⟩ : ByteArray), .string (⟨#[]⟩ : ByteArray), .bool false, .bool false, .slice none 0 0, .slice none 0 0]) ?_ 1 _ rfl; (with_reducible repeat (first | refine blk_drewN ?_ _ | refine blk_drew ?_ | refine blk_alloc ?_ _)); refine blk_put (cs := #[.int .i64 0, .int .i64 0, .string (⟨#[]⟩ : ByteArray), .string (⟨#[]⟩ : ByteArray), .bool false, .bool false, .slice none 0 0, .slice none 0 0]) ?_ 0 _ rfl; (with_reducible repeat (first | refine blk_drewN ?_ _ | refine blk_drew ?_ | refine blk_alloc ?_ _)); exact BK120.out⟩, ⟨by repeat (first | (with_reducible first | exact HB.out | apply below_alloc | apply pw_below_drewN | apply below_drew1 | refine below_set ?_ GE118.out | refine below_set ?_ GE120.out) | exact HB.out)⟩⟩
                      · rw [if_neg c36] at H
                        have c36b0 : (((rd_T39 l0 x7_1).f3).toList == ((rd_T39 l1 x7_1).f3).toList) = false := beq_eq_false_iff_ne.mpr c36
                        have c36b1 : (((rd_T39 l0 x7_1).f3).toList != ((rd_T39 l1 x7_1).f3).toList) = true := bne_iff_ne.mpr c36
                        have H' := Aside0.mk H
                        clear H
                        have hnb44 := NB118_120.out
                        have hnc44 := NB120_118.out
                        have hcz45_0 : w11.cell? ⟨gb118, 0, none⟩ = some (.int .i64 ((rd_T39 l0 x7_1).f0)) := (blk_cell BK118.out 0).trans rfl
                        have hcz45_1 : w11.cell? ⟨gb118, 1, none⟩ = some (.int .i64 ((rd_T39 l0 x7_1).f1)) := (blk_cell BK118.out 1).trans rfl
                        have hcz45_2 : w11.cell? ⟨gb118, 2, none⟩ = some (.string ((rd_T39 l0 x7_1).f2)) := (blk_cell BK118.out 2).trans rfl
                        have hcz45_3 : w11.cell? ⟨gb118, 3, none⟩ = some (.string ((rd_T39 l0 x7_1).f3)) := (blk_cell BK118.out 3).trans rfl
                        have hcz45_4 : w11.cell? ⟨gb118, 4, none⟩ = some (.bool ((rd_T39 l0 x7_1).f4)) := (blk_cell BK118.out 4).trans rfl
                        have hcz45_5 : w11.cell? ⟨gb118, 5, none⟩ = some (.bool ((rd_T39 l0 x7_1).f5)) := (blk_cell BK118.out 5).trans rfl
                        have hcz45_6 : w11.cell? ⟨gb118, 6, none⟩ = some (.slice A117_6 ((rd_T39 l0 x7_1).f6).length c117_6) := (blk_cell BK118.out 6).trans rfl
                        have hcz45_7 : w11.cell? ⟨gb118, 7, none⟩ = some (.slice A117_7 ((rd_T39 l0 x7_1).f7).length c117_7) := (blk_cell BK118.out 7).trans rfl
                        have hfz45_0 := blk_frozen BK118.out 0
                        have hfz45_1 := blk_frozen BK118.out 1
                        have hfz45_2 := blk_frozen BK118.out 2
                        have hfz45_3 := blk_frozen BK118.out 3
                        have hfz45_4 := blk_frozen BK118.out 4
                        have hfz45_5 := blk_frozen BK118.out 5
                        have hfz45_6 := blk_frozen BK118.out 6
                        have hfz45_7 := blk_frozen BK118.out 7
                        have hcz46_0 : w11.cell? ⟨gb120, 0, none⟩ = some (.int .i64 0) := (blk_cell BK120.out 0).trans rfl
                        have hcz46_1 : w11.cell? ⟨gb120, 1, none⟩ = some (.int .i64 0) := (blk_cell BK120.out 1).trans rfl
                        have hcz46_2 : w11.cell? ⟨gb120, 2, none⟩ = some (.string (⟨#[]⟩ : ByteArray)) := (blk_cell BK120.out 2).trans rfl
                        have hcz46_3 : w11.cell? ⟨gb120, 3, none⟩ = some (.string (⟨#[]⟩ : ByteArray)) := (blk_cell BK120.out 3).trans rfl
                        have hcz46_4 : w11.cell? ⟨gb120, 4, none⟩ = some (.bool false) := (blk_cell BK120.out 4).trans rfl
                        have hcz46_5 : w11.cell? ⟨gb120, 5, none⟩ = some (.bool false) := (blk_cell BK120.out 5).trans rfl
                        have hcz46_6 : w11.cell? ⟨gb120, 6, none⟩ = some (.slice none 0 0) := (blk_cell BK120.out 6).trans rfl
                        have hcz46_7 : w11.cell? ⟨gb120, 7, none⟩ = some (.slice none 0 0) := (blk_cell BK120.out 7).trans rfl
                        have hfz46_0 := blk_frozen BK120.out 0
                        have hfz46_1 := blk_frozen BK120.out 1
                        have hfz46_2 := blk_frozen BK120.out 2
                        have hfz46_3 := blk_frozen BK120.out 3
                        have hfz46_4 := blk_frozen BK120.out 4
                        have hfz46_5 := blk_frozen BK120.out 5
                        have hfz46_6 := blk_frozen BK120.out 6
                        have hfz46_7 := blk_frozen BK120.out 7
                        go_wp2
                        go_meet
                        case rel => exact ⟨_, (true), (by first | rfl | (simp; done) | (simp [*]; done)), H', ⟨by have := HK1.out; first | omega | exact Nat.le_refl _⟩, ⟨by (with_reducible repeat (first | refine blk_drewN ?_ _ | refine blk_drew ?_ | refine blk_alloc ?_ _)); refine blk_far ?_ NB118_120.out _; (with_reducible repeat (first | refine blk_drewN ?_ _ | refine blk_drew ?_ | refine blk_alloc ?_ _)); refine blk_far ?_ NB118_120.out _; (with_reducible repeat (first | refine blk_drewN ?_ _ | refine blk_drew ?_ | refine blk_alloc ?_ _)); refine blk_far ?_ NB118_120.out _; (with_reducible repeat (first | refine blk_drewN ?_ _ | refine blk_drew ?_ | refine blk_alloc ?_ _)); refine blk_far ?_ NB118_120.out _; (with_reducible repeat (first | refine blk_drewN ?_ _ | refine blk_drew ?_ | refine blk_alloc ?_ _)); refine blk_far ?_ NB118_120.out _; (with_reducible repeat (first | refine blk_drewN ?_ _ | refine blk_drew ?_ | refine blk_alloc ?_ _)); refine blk_far ?_ NB118_120.out _; (with_reducible repeat (first | refine blk_drewN ?_ _ | refine blk_drew ?_ | refine blk_alloc ?_ _)); refine blk_far ?_ NB118_120.out _; (with_reducible repeat (first | refine blk_drewN ?_ _ | refine blk_drew ?_ | refine blk_alloc ?_ _)); refine blk_far ?_ NB118_120.out _; (with_reducible repeat (first | refine blk_drewN ?_ _ | refine blk_drew ?_ | refine blk_alloc ?_ _)); exact BK118.out⟩, ⟨by (with_reducible repeat (first | refine blk_drewN ?_ _ | refine blk_drew ?_ | refine blk_alloc ?_ _)); refine blk_put (cs := #[.int .i64 ((rd_T39 l1 x7_1).f0), .int .i64 ((rd_T39 l1 x7_1).f1), .string ((rd_T39 l1 x7_1).f2), .string ((rd_T39 l1 x7_1).f3), .bool ((rd_T39 l1 x7_1).f4), .bool ((rd_T39 l1 x7_1).f5), .slice A119_6 ((rd_T39 l1 x7_1).f6).length c119_6, .slice none 0 0]) ?_ 7 _ rfl; (with_reducible repeat (first | refine blk_drewN ?_ _ | refine blk_drew ?_ | refine blk_alloc ?_ _)); refine blk_put (cs := #[.int .i64 ((rd_T39 l1 x7_1).f0), .int .i64 ((rd_T39 l1 x7_1).f1), .string ((rd_T39 l1 x7_1).f2), .string ((rd_T39 l1 x7_1).f3), .bool ((rd_T39 l1 x7_1).f4), .bool ((rd_T39 l1 x7_1).f5), .slice none 0 0, .slice none 0 0]) ?_ 6 _ rfl; (with_reducible repeat (first | refine blk_drewN ?_ _ | refine blk_drew ?_ | refine blk_alloc ?_ _)); refine blk_put (cs := #[.int .i64 ((rd_T39 l1 x7_1).f0), .int .i64 ((rd_T39 l1 x7_1).f1), .string ((rd_T39 l1 x7_1).f2), .string ((rd_T39 l1 x7_1).f3), .bool ((rd_T39 l1 x7_1).f4), .bool false, .slice none 0 0, .slice none 0 0]) ?_ 5 _ rfl; (with_reducible repeat (first | refine blk_drewN ?_ _ | refine blk_drew ?_ | refine blk_alloc ?_ _)); refine blk_put (cs := #[.int .i64 ((rd_T39 l1 x7_1).f0), .int .i64 ((rd_T39 l1 x7_1).f1), .string ((rd_T39 l1 x7_1).f2), .string ((rd_T39 l1 x7_1).f3), .bool false, .bool false, .slice none 0 0, .slice none 0 0]) ?_ 4 _ rfl; (with_reducible repeat (first | refine blk_drewN ?_ _ | refine blk_drew ?_ | refine blk_alloc ?_ _)); refine blk_put (cs := #[.int .i64 ((rd_T39 l1 x7_1).f0), .int .i64 ((rd_T39 l1 x7_1).f1), .string ((rd_T39 l1 x7_1).f2), .string (⟨#[]⟩ : ByteArray), .bool false, .bool false, .slice none 0 0, .slice none 0 0]) ?_ 3 _ rfl; (with_reducible repeat (first | refine blk_drewN ?_ _ | refine blk_drew ?_ | refine blk_alloc ?_ _)); refine blk_put (cs := #[.int .i64 ((rd_T39 l1 x7_1).f0), .int .i64 ((rd_T39 l1 x7_1).f1), .string (⟨#[]⟩ : ByteArray), .string (⟨#[]⟩ : ByteArray), .bool false, .bool false, .slice none 0 0, .slice none 0 0]) ?_ 2 _ rfl; (with_reducible repeat (first | refine blk_drewN ?_ _ | refine blk_drew ?_ | refine blk_alloc ?_ _)); refine blk_put (cs := #[.int .i64 ((rd_T39 l1 x7_1).f0), .int .i64 0, .string (⟨#[]⟩ : ByteArray), .string (⟨#[]⟩ : ByteArray), .bool false, .bool false, .slice none 0 0, .slice none 0 0]) ?_ 1 _ rfl; (with_reducible repeat (first | refine blk_drewN ?_ _ | refine blk_drew ?_ | refine blk_alloc ?_ _)); refine blk_put (cs := #[.int .i64 0, .int .i64 0, .string (⟨#[]⟩ : ByteArray), .string (⟨#[]⟩ : ByteArray), .bool false, .bool false, .slice none 0 0, .slice none 0 0]) ?_ 0 _ rfl; (with_reducible repeat (first | refine blk_drewN ?_ _ | refine blk_drew ?_ | refine blk_alloc ?_ _)); exact BK120.out⟩, ⟨by repeat (first | (with_reducible first | exact HB.out | apply below_alloc | apply pw_below_drewN | apply below_drew1 | refine below_set ?_ GE118.out | refine below_set ?_ GE120.out) | exact HB.out)⟩⟩
                    · rw [if_neg c35] at H
                      have c35b0 : (((rd_T39 l0 x7_1).f2).toList == ((rd_T39 l1 x7_1).f2).toList) = false := beq_eq_false_iff_ne.mpr c35
                      have c35b1 : (((rd_T39 l0 x7_1).f2).toList != ((rd_T39 l1 x7_1).f2).toList) = true := bne_iff_ne.mpr c35
                      have H' := Aside0.mk H
                      clear H
                      have hnb47 := NB118_120.out
                      have hnc47 := NB120_118.out
                      have hcz48_0 : w11.cell? ⟨gb118, 0, none⟩ = some (.int .i64 ((rd_T39 l0 x7_1).f0)) := (blk_cell BK118.out 0).trans rfl
                      have hcz48_1 : w11.cell? ⟨gb118, 1, none⟩ = some (.int .i64 ((rd_T39 l0 x7_1).f1)) := (blk_cell BK118.out 1).trans rfl
                      have hcz48_2 : w11.cell? ⟨gb118, 2, none⟩ = some (.string ((rd_T39 l0 x7_1).f2)) := (blk_cell BK118.out 2).trans rfl
                      have hcz48_3 : w11.cell? ⟨gb118, 3, none⟩ = some (.string ((rd_T39 l0 x7_1).f3)) := (blk_cell BK118.out 3).trans rfl
                      have hcz48_4 : w11.cell? ⟨gb118, 4, none⟩ = some (.bool ((rd_T39 l0 x7_1).f4)) := (blk_cell BK118.out 4).trans rfl
                      have hcz48_5 : w11.cell? ⟨gb118, 5, none⟩ = some (.bool ((rd_T39 l0 x7_1).f5)) := (blk_cell BK118.out 5).trans rfl
                      have hcz48_6 : w11.cell? ⟨gb118, 6, none⟩ = some (.slice A117_6 ((rd_T39 l0 x7_1).f6).length c117_6) := (blk_cell BK118.out 6).trans rfl
                      have hcz48_7 : w11.cell? ⟨gb118, 7, none⟩ = some (.slice A117_7 ((rd_T39 l0 x7_1).f7).length c117_7) := (blk_cell BK118.out 7).trans rfl
                      have hfz48_0 := blk_frozen BK118.out 0
                      have hfz48_1 := blk_frozen BK118.out 1
                      have hfz48_2 := blk_frozen BK118.out 2
                      have hfz48_3 := blk_frozen BK118.out 3
                      have hfz48_4 := blk_frozen BK118.out 4
                      have hfz48_5 := blk_frozen BK118.out 5
                      have hfz48_6 := blk_frozen BK118.out 6
                      have hfz48_7 := blk_frozen BK118.out 7
                      have hcz49_0 : w11.cell? ⟨gb120, 0, none⟩ = some (.int .i64 0) := (blk_cell BK120.out 0).trans rfl
                      have hcz49_1 : w11.cell? ⟨gb120, 1, none⟩ = some (.int .i64 0) := (blk_cell BK120.out 1).trans rfl
                      have hcz49_2 : w11.cell? ⟨gb120, 2, none⟩ = some (.string (⟨#[]⟩ : ByteArray)) := (blk_cell BK120.out 2).trans rfl
                      have hcz49_3 : w11.cell? ⟨gb120, 3, none⟩ = some (.string (⟨#[]⟩ : ByteArray)) := (blk_cell BK120.out 3).trans rfl
                      have hcz49_4 : w11.cell? ⟨gb120, 4, none⟩ = some (.bool false) := (blk_cell BK120.out 4).trans rfl
                      have hcz49_5 : w11.cell? ⟨gb120, 5, none⟩ = some (.bool false) := (blk_cell BK120.out 5).trans rfl
                      have hcz49_6 : w11.cell? ⟨gb120, 6, none⟩ = some (.slice none 0 0) := (blk_cell BK120.out 6).trans rfl
                      have hcz49_7 : w11.cell? ⟨gb120, 7, none⟩ = some (.slice none 0 0) := (blk_cell BK120.out 7).trans rfl
                      have hfz49_0 := blk_frozen BK120.out 0
                      have hfz49_1 := blk_frozen BK120.out 1
                      have hfz49_2 := blk_frozen BK120.out 2
                      have hfz49_3 := blk_frozen BK120.out 3
                      have hfz49_4 := blk_frozen BK120.out 4
                      have hfz49_5 := blk_frozen BK120.out 5
                      have hfz49_6 := blk_frozen BK120.out 6
                      have hfz49_7 := blk_frozen BK120.out 7
                      go_wp2
                      go_meet
                      case rel => exact ⟨_, (true), (by first | rfl | (simp; done) | (simp [*]; done)), H', ⟨by have := HK1.out; first | omega | exact Nat.le_refl _⟩, ⟨by (with_reducible repeat (first | refine blk_drewN ?_ _ | refine blk_drew ?_ | refine blk_alloc ?_ _)); refine blk_far ?_ NB118_120.out _; (with_reducible repeat (first | refine blk_drewN ?_ _ | refine blk_drew ?_ | refine blk_alloc ?_ _)); refine blk_far ?_ NB118_120.out _; (with_reducible repeat (first | refine blk_drewN ?_ _ | refine blk_drew ?_ | refine blk_alloc ?_ _)); refine blk_far ?_ NB118_120.out _; (with_reducible repeat (first | refine blk_drewN ?_ _ | refine blk_drew ?_ | refine blk_alloc ?_ _)); refine blk_far ?_ NB118_120.out _; (with_reducible repeat (first | refine blk_drewN ?_ _ | refine blk_drew ?_ | refine blk_alloc ?_ _)); refine blk_far ?_ NB118_120.out _; (with_reducible repeat (first | refine blk_drewN ?_ _ | refine blk_drew ?_ | refine blk_alloc ?_ _)); refine blk_far ?_ NB118_120.out _; (with_reducible repeat (first | refine blk_drewN ?_ _ | refine blk_drew ?_ | refine blk_alloc ?_ _)); refine blk_far ?_ NB118_120.out _; (with_reducible repeat (first | refine blk_drewN ?_ _ | refine blk_drew ?_ | refine blk_alloc ?_ _)); refine blk_far ?_ NB118_120.out _; (with_reducible repeat (first | refine blk_drewN ?_ _ | refine blk_drew ?_ | refine blk_alloc ?_ _)); exact BK118.out⟩, ⟨by (with_reducible repeat (first | refine blk_drewN ?_ _ | refine blk_drew ?_ | refine blk_alloc ?_ _)); refine blk_put (cs := #[.int .i64 ((rd_T39 l1 x7_1).f0), .int .i64 ((rd_T39 l1 x7_1).f1), .string ((rd_T39 l1 x7_1).f2), .string ((rd_T39 l1 x7_1).f3), .bool ((rd_T39 l1 x7_1).f4), .bool ((rd_T39 l1 x7_1).f5), .slice A119_6 ((rd_T39 l1 x7_1).f6).length c119_6, .slice none 0 0]) ?_ 7 _ rfl; (with_reducible repeat (first | refine blk_drewN ?_ _ | refine blk_drew ?_ | refine blk_alloc ?_ _)); refine blk_put (cs := #[.int .i64 ((rd_T39 l1 x7_1).f0), .int .i64 ((rd_T39 l1 x7_1).f1), .string ((rd_T39 l1 x7_1).f2), .string ((rd_T39 l1 x7_1).f3), .bool ((rd_T39 l1 x7_1).f4), .bool ((rd_T39 l1 x7_1).f5), .slice none 0 0, .slice none 0 0]) ?_ 6 _ rfl; (with_reducible repeat (first | refine blk_drewN ?_ _ | refine blk_drew ?_ | refine blk_alloc ?_ _)); refine blk_put (cs := #[.int .i64 ((rd_T39 l1 x7_1).f0), .int .i64 ((rd_T39 l1 x7_1).f1), .string ((rd_T39 l1 x7_1).f2), .string ((rd_T39 l1 x7_1).f3), .bool ((rd_T39 l1 x7_1).f4), .bool false, .slice none 0 0, .slice none 0 0]) ?_ 5 _ rfl; (with_reducible repeat (first | refine blk_drewN ?_ _ | refine blk_drew ?_ | refine blk_alloc ?_ _)); refine blk_put (cs := #[.int .i64 ((rd_T39 l1 x7_1).f0), .int .i64 ((rd_T39 l1 x7_1).f1), .string ((rd_T39 l1 x7_1).f2), .string ((rd_T39 l1 x7_1).f3), .bool false, .bool false, .slice none 0 0, .slice none 0 0]) ?_ 4 _ rfl; (with_reducible repeat (first | refine blk_drewN ?_ _ | refine blk_drew ?_ | refine blk_alloc ?_ _)); refine blk_put (cs := #[.int .i64 ((rd_T39 l1 x7_1).f0), .int .i64 ((rd_T39 l1 x7_1).f1), .string ((rd_T39 l1 x7_1).f2), .string (⟨#[]⟩ : ByteArray), .bool false, .bool false, .slice none 0 0, .slice none 0 0]) ?_ 3 _ rfl; (with_reducible repeat (first | refine blk_drewN ?_ _ | refine blk_drew ?_ | refine blk_alloc ?_ _)); refine blk_put (cs := #[.int .i64 ((rd_T39 l1 x7_1).f0), .int .i64 ((rd_T39 l1 x7_1).f1), .string (⟨#[]⟩ : ByteArray), .string (⟨#[]⟩ : ByteArray), .bool false, .bool false, .slice none 0 0, .slice none 0 0]) ?_ 2 _ rfl; (with_reducible repeat (first | refine blk_drewN ?_ _ | refine blk_drew ?_ | refine blk_alloc ?_ _)); refine blk_put (cs := #[.int .i64 ((rd_T39 l1 x7_1).f0), .int .i64 0, .string (⟨#[]⟩ : ByteArray), .string (⟨#[]⟩ : ByteArray), .bool false, .bool false, .slice none 0 0, .slice none 0 0]) ?_ 1 _ rfl; (with_reducible repeat (first | refine blk_drewN ?_ _ | refine blk_drew ?_ | refine blk_alloc ?_ _)); refine blk_put (cs := #[.int .i64 0, .int .i64 0, .string (⟨#[]⟩ : ByteArray), .string (⟨#[]⟩ : ByteArray), .bool false, .bool false, .slice none 0 0, .slice none 0 0]) ?_ 0 _ rfl; (with_reducible repeat (first | refine blk_drewN ?_ _ | refine blk_drew ?_ | refine blk_alloc ?_ _)); exact BK120.out⟩, ⟨by repeat (first | (with_reducible first | exact HB.out | apply below_alloc | apply pw_below_drewN | apply below_drew1 | refine below_set ?_ GE118.out | refine below_set ?_ GE120.out) | exact HB.out)⟩⟩
                · rw [if_neg c14] at H
                  have c14b0 : (((rd_T39 l0 x7_1).f0) == ((rd_T39 l1 x7_1).f0)) = false := beq_eq_false_iff_ne.mpr c14
                  have c14b1 : (((rd_T39 l0 x7_1).f0) != ((rd_T39 l1 x7_1).f0)) = true := bne_iff_ne.mpr c14
                  (first | rw [c14b0] | (simp only [i64_w, i32_w]; rw [c14b0]) | skip)
                  have H' := Aside0.mk H
                  clear H
                  have hnb50 := NB118_120.out
                  have hnc50 := NB120_118.out
                  have hcz51_0 : w11.cell? ⟨gb118, 0, none⟩ = some (.int .i64 ((rd_T39 l0 x7_1).f0)) := (blk_cell BK118.out 0).trans rfl
                  have hcz51_1 : w11.cell? ⟨gb118, 1, none⟩ = some (.int .i64 ((rd_T39 l0 x7_1).f1)) := (blk_cell BK118.out 1).trans rfl
                  have hcz51_2 : w11.cell? ⟨gb118, 2, none⟩ = some (.string ((rd_T39 l0 x7_1).f2)) := (blk_cell BK118.out 2).trans rfl
                  have hcz51_3 : w11.cell? ⟨gb118, 3, none⟩ = some (.string ((rd_T39 l0 x7_1).f3)) := (blk_cell BK118.out 3).trans rfl
                  have hcz51_4 : w11.cell? ⟨gb118, 4, none⟩ = some (.bool ((rd_T39 l0 x7_1).f4)) := (blk_cell BK118.out 4).trans rfl
                  have hcz51_5 : w11.cell? ⟨gb118, 5, none⟩ = some (.bool ((rd_T39 l0 x7_1).f5)) := (blk_cell BK118.out 5).trans rfl
                  have hcz51_6 : w11.cell? ⟨gb118, 6, none⟩ = some (.slice A117_6 ((rd_T39 l0 x7_1).f6).length c117_6) := (blk_cell BK118.out 6).trans rfl
                  have hcz51_7 : w11.cell? ⟨gb118, 7, none⟩ = some (.slice A117_7 ((rd_T39 l0 x7_1).f7).length c117_7) := (blk_cell BK118.out 7).trans rfl
                  have hfz51_0 := blk_frozen BK118.out 0
                  have hfz51_1 := blk_frozen BK118.out 1
                  have hfz51_2 := blk_frozen BK118.out 2
                  have hfz51_3 := blk_frozen BK118.out 3
                  have hfz51_4 := blk_frozen BK118.out 4
                  have hfz51_5 := blk_frozen BK118.out 5
                  have hfz51_6 := blk_frozen BK118.out 6
                  have hfz51_7 := blk_frozen BK118.out 7
                  have hcz52_0 : w11.cell? ⟨gb120, 0, none⟩ = some (.int .i64 0) := (blk_cell BK120.out 0).trans rfl
                  have hcz52_1 : w11.cell? ⟨gb120, 1, none⟩ = some (.int .i64 0) := (blk_cell BK120.out 1).trans rfl
                  have hcz52_2 : w11.cell? ⟨gb120, 2, none⟩ = some (.string (⟨#[]⟩ : ByteArray)) := (blk_cell BK120.out 2).trans rfl
                  have hcz52_3 : w11.cell? ⟨gb120, 3, none⟩ = some (.string (⟨#[]⟩ : ByteArray)) := (blk_cell BK120.out 3).trans rfl
                  have hcz52_4 : w11.cell? ⟨gb120, 4, none⟩ = some (.bool false) := (blk_cell BK120.out 4).trans rfl
                  have hcz52_5 : w11.cell? ⟨gb120, 5, none⟩ = some (.bool false) := (blk_cell BK120.out 5).trans rfl
                  have hcz52_6 : w11.cell? ⟨gb120, 6, none⟩ = some (.slice none 0 0) := (blk_cell BK120.out 6).trans rfl
                  have hcz52_7 : w11.cell? ⟨gb120, 7, none⟩ = some (.slice none 0 0) := (blk_cell BK120.out 7).trans rfl
                  have hfz52_0 := blk_frozen BK120.out 0
                  have hfz52_1 := blk_frozen BK120.out 1
                  have hfz52_2 := blk_frozen BK120.out 2
                  have hfz52_3 := blk_frozen BK120.out 3
                  have hfz52_4 := blk_frozen BK120.out 4
                  have hfz52_5 := blk_frozen BK120.out 5
                  have hfz52_6 := blk_frozen BK120.out 6
                  have hfz52_7 := blk_frozen BK120.out 7
                  go_wp2
                  go_meet
                  case rel => exact ⟨_, (true), (by first | rfl | (simp; done) | (simp [*]; done)), H', ⟨by have := HK1.out; first | omega | exact Nat.le_refl _⟩, ⟨by (with_reducible repeat (first | refine blk_drewN ?_ _ | refine blk_drew ?_ | refine blk_alloc ?_ _)); refine blk_far ?_ NB118_120.out _; (with_reducible repeat (first | refine blk_drewN ?_ _ | refine blk_drew ?_ | refine blk_alloc ?_ _)); refine blk_far ?_ NB118_120.out _; (with_reducible repeat (first | refine blk_drewN ?_ _ | refine blk_drew ?_ | refine blk_alloc ?_ _)); refine blk_far ?_ NB118_120.out _; (with_reducible repeat (first | refine blk_drewN ?_ _ | refine blk_drew ?_ | refine blk_alloc ?_ _)); refine blk_far ?_ NB118_120.out _; (with_reducible repeat (first | refine blk_drewN ?_ _ | refine blk_drew ?_ | refine blk_alloc ?_ _)); refine blk_far ?_ NB118_120.out _; (with_reducible repeat (first | refine blk_drewN ?_ _ | refine blk_drew ?_ | refine blk_alloc ?_ _)); refine blk_far ?_ NB118_120.out _; (with_reducible repeat (first | refine blk_drewN ?_ _ | refine blk_drew ?_ | refine blk_alloc ?_ _)); refine blk_far ?_ NB118_120.out _; (with_reducible repeat (first | refine blk_drewN ?_ _ | refine blk_drew ?_ | refine blk_alloc ?_ _)); refine blk_far ?_ NB118_120.out _; (with_reducible repeat (first | refine blk_drewN ?_ _ | refine blk_drew ?_ | refine blk_alloc ?_ _)); exact BK118.out⟩, ⟨by (with_reducible repeat (first | refine blk_drewN ?_ _ | refine blk_drew ?_ | refine blk_alloc ?_ _)); refine blk_put (cs := #[.int .i64 ((rd_T39 l1 x7_1).f0), .int .i64 ((rd_T39 l1 x7_1).f1), .string ((rd_T39 l1 x7_1).f2), .string ((rd_T39 l1 x7_1).f3), .bool ((rd_T39 l1 x7_1).f4), .bool ((rd_T39 l1 x7_1).f5), .slice A119_6 ((rd_T39 l1 x7_1).f6).length c119_6, .slice none 0 0]) ?_ 7 _ rfl; (with_reducible repeat (first | refine blk_drewN ?_ _ | refine blk_drew ?_ | refine blk_alloc ?_ _)); refine blk_put (cs := #[.int .i64 ((rd_T39 l1 x7_1).f0), .int .i64 ((rd_T39 l1 x7_1).f1), .string ((rd_T39 l1 x7_1).f2), .string ((rd_T39 l1 x7_1).f3), .bool ((rd_T39 l1 x7_1).f4), .bool ((rd_T39 l1 x7_1).f5), .slice none 0 0, .slice none 0 0]) ?_ 6 _ rfl; (with_reducible repeat (first | refine blk_drewN ?_ _ | refine blk_drew ?_ | refine blk_alloc ?_ _)); refine blk_put (cs := #[.int .i64 ((rd_T39 l1 x7_1).f0), .int .i64 ((rd_T39 l1 x7_1).f1), .string ((rd_T39 l1 x7_1).f2), .string ((rd_T39 l1 x7_1).f3), .bool ((rd_T39 l1 x7_1).f4), .bool false, .slice none 0 0, .slice none 0 0]) ?_ 5 _ rfl; (with_reducible repeat (first | refine blk_drewN ?_ _ | refine blk_drew ?_ | refine blk_alloc ?_ _)); refine blk_put (cs := #[.int .i64 ((rd_T39 l1 x7_1).f0), .int .i64 ((rd_T39 l1 x7_1).f1), .string ((rd_T39 l1 x7_1).f2), .string ((rd_T39 l1 x7_1).f3), .bool false, .bool false, .slice none 0 0, .slice none 0 0]) ?_ 4 _ rfl; (with_reducible repeat (first | refine blk_drewN ?_ _ | refine blk_drew ?_ | refine blk_alloc ?_ _)); refine blk_put (cs := #[.int .i64 ((rd_T39 l1 x7_1).f0), .int .i64 ((rd_T39 l1 x7_1).f1), .string ((rd_T39 l1 x7_1).f2), .string (⟨#[]⟩ : ByteArray), .bool false, .bool false, .slice none 0 0, .slice none 0 0]) ?_ 3 _ rfl; (with_reducible repeat (first | refine blk_drewN ?_ _ | refine blk_drew ?_ | refine blk_alloc ?_ _)); refine blk_put (cs := #[.int .i64 ((rd_T39 l1 x7_1).f0), .int .i64 ((rd_T39 l1 x7_1).f1), .string (⟨#[]⟩ : ByteArray), .string (⟨#[]⟩ : ByteArray), .bool false, .bool false, .slice none 0 0, .slice none 0 0]) ?_ 2 _ rfl; (with_reducible repeat (first | refine blk_drewN ?_ _ | refine blk_drew ?_ | refine blk_alloc ?_ _)); refine blk_put (cs := #[.int .i64 ((rd_T39 l1 x7_1).f0), .int .i64 0, .string (⟨#[]⟩ : ByteArray), .string (⟨#[]⟩ : ByteArray), .bool false, .bool false, .slice none 0 0, .slice none 0 0]) ?_ 1 _ rfl; (with_reducible repeat (first | refine blk_drewN ?_ _ | refine blk_drew ?_ | refine blk_alloc ?_ _)); refine blk_put (cs := #[.int .i64 0, .int .i64 0, .string (⟨#[]⟩ : ByteArray), .string (⟨#[]⟩ : ByteArray), .bool false, .bool false, .slice none 0 0, .slice none 0 0]) ?_ 0 _ rfl; (with_reducible repeat (first | refine blk_drewN ?_ _ | refine blk_drew ?_ | refine blk_alloc ?_ _)); exact BK120.out⟩, ⟨by repeat (first | (with_reducible first | exact HB.out | apply below_alloc | apply pw_below_drewN | apply below_drew1 | refine below_set ?_ GE118.out | refine below_set ?_ GE120.out) | exact HB.out)⟩⟩
              case rest =>
                clear HC8
                try clear c1
                try clear p1
                try clear q1
                try clear hx1
                try clear c2
                try clear p2
                try clear c3
                try clear c4
                try clear c4b0
                try clear c4b1
                try clear c4b2
                try clear c5
                try clear c5b0
                try clear c6
                try clear c6b0
                try clear c7
                try clear c7b0
                try clear c11
                try clear p11
                try clear q11
                try clear hx11
                try clear c12
                try clear c14
                try clear c14b0
                try clear c14b1
                try clear c15
                try clear c16
                try clear c16b0
                try clear c16b1
                try clear c17
                try clear c17b0
                try clear c17b1
                try clear c18
                try clear c18b0
                try clear c18b1
                try clear c19
                try clear c19b0
                try clear c19b1
                try clear c19b2
                try clear c20
                try clear c21
                try clear c23
                try clear c26
                try clear c29
                try clear c32
                try clear c35
                try clear c35b0
                try clear c35b1
                try clear c36
                try clear c36b0
                try clear c36b1
                try clear c37
                try clear c37b0
                try clear c37b1
                try clear c37b2
                try clear c38
                try clear c41
                try clear c44
                try clear c47
                try clear c50
                try clear hcz10_0
                try clear hcz10_1
                try clear hcz10_2
                try clear hcz10_3
                try clear hcz10_4
                try clear hcz10_5
                try clear hcz10_6
                try clear hcz10_7
                try clear hcz13_0
                try clear hcz13_1
                try clear hcz13_2
                try clear hcz13_3
                try clear hcz13_4
                try clear hcz13_5
                try clear hcz13_6
                try clear hcz13_7
                try clear hcz21_0
                try clear hcz21_1
                try clear hcz21_2
                try clear hcz21_3
                try clear hcz21_4
                try clear hcz21_5
                try clear hcz21_6
                try clear hcz21_7
                try clear hcz22_0
                try clear hcz22_1
                try clear hcz22_2
                try clear hcz22_3
                try clear hcz22_4
                try clear hcz22_5
                try clear hcz22_6
                try clear hcz22_7
                try clear hcz24_0
                try clear hcz24_1
                try clear hcz24_2
                try clear hcz24_3
                try clear hcz24_4
                try clear hcz24_5
                try clear hcz24_6
                try clear hcz24_7
                try clear hcz25_0
                try clear hcz25_1
                try clear hcz25_2
                try clear hcz25_3
                try clear hcz25_4
                try clear hcz25_5
                try clear hcz25_6
                try clear hcz25_7
                try clear hcz27_0
                try clear hcz27_1
                try clear hcz27_2
                try clear hcz27_3
                try clear hcz27_4
                try clear hcz27_5
                try clear hcz27_6
                try clear hcz27_7
                try clear hcz28_0
                try clear hcz28_1
                try clear hcz28_2
                try clear hcz28_3
                try clear hcz28_4
                try clear hcz28_5
                try clear hcz28_6
                try clear hcz28_7
                try clear hcz30_0
                try clear hcz30_1
                try clear hcz30_2
                try clear hcz30_3
                try clear hcz30_4
                try clear hcz30_5
                try clear hcz30_6
                try clear hcz30_7
                try clear hcz31_0
                try clear hcz31_1
                try clear hcz31_2
                try clear hcz31_3
                try clear hcz31_4
                try clear hcz31_5
                try clear hcz31_6
                try clear hcz31_7
                try clear hcz33_0
                try clear hcz33_1
                try clear hcz33_2
                try clear hcz33_3
                try clear hcz33_4
                try clear hcz33_5
                try clear hcz33_6
                try clear hcz33_7
                try clear hcz34_0
                try clear hcz34_1
                try clear hcz34_2
                try clear hcz34_3
                try clear hcz34_4
                try clear hcz34_5
                try clear hcz34_6
                try clear hcz34_7
                try clear hcz39_0
                try clear hcz39_1
                try clear hcz39_2
                try clear hcz39_3
                try clear hcz39_4
                try clear hcz39_5
                try clear hcz39_6
                try clear hcz39_7
                try clear hcz40_0
                try clear hcz40_1
                try clear hcz40_2
                try clear hcz40_3
                try clear hcz40_4
                try clear hcz40_5
                try clear hcz40_6
                try clear hcz40_7
                try clear hcz42_0
                try clear hcz42_1
                try clear hcz42_2
                try clear hcz42_3
                try clear hcz42_4
                try clear hcz42_5
                try clear hcz42_6
                try clear hcz42_7
                try clear hcz43_0
                try clear hcz43_1
                try clear hcz43_2
                try clear hcz43_3
                try clear hcz43_4
                try clear hcz43_5
                try clear hcz43_6
                try clear hcz43_7
                try clear hcz45_0
                try clear hcz45_1
                try clear hcz45_2
                try clear hcz45_3
                try clear hcz45_4
                try clear hcz45_5
                try clear hcz45_6
                try clear hcz45_7
                try clear hcz46_0
                try clear hcz46_1
                try clear hcz46_2
                try clear hcz46_3
                try clear hcz46_4
                try clear hcz46_5
                try clear hcz46_6
                try clear hcz46_7
                try clear hcz48_0
                try clear hcz48_1
                try clear hcz48_2
                try clear hcz48_3
                try clear hcz48_4
                try clear hcz48_5
                try clear hcz48_6
                try clear hcz48_7
                try clear hcz49_0
                try clear hcz49_1
                try clear hcz49_2
                try clear hcz49_3
                try clear hcz49_4
                try clear hcz49_5
                try clear hcz49_6
                try clear hcz49_7
                try clear hcz51_0
                try clear hcz51_1
                try clear hcz51_2
                try clear hcz51_3
                try clear hcz51_4
                try clear hcz51_5
                try clear hcz51_6
                try clear hcz51_7
                try clear hcz52_0
                try clear hcz52_1
                try clear hcz52_2
                try clear hcz52_3
                try clear hcz52_4
                try clear hcz52_5
                try clear hcz52_6
                try clear hcz52_7
                try clear hfz10_0
                try clear hfz10_1
                try clear hfz10_2
                try clear hfz10_3
                try clear hfz10_4
                try clear hfz10_5
                try clear hfz10_6
                try clear hfz10_7
                try clear hfz13_0
                try clear hfz13_1
                try clear hfz13_2
                try clear hfz13_3
                try clear hfz13_4
                try clear hfz13_5
                try clear hfz13_6
                try clear hfz13_7
                try clear hfz21_0
                try clear hfz21_1
                try clear hfz21_2
                try clear hfz21_3
                try clear hfz21_4
                try clear hfz21_5
                try clear hfz21_6
                try clear hfz21_7
                try clear hfz22_0
                try clear hfz22_1
                try clear hfz22_2
                try clear hfz22_3
                try clear hfz22_4
                try clear hfz22_5
                try clear hfz22_6
                try clear hfz22_7
                try clear hfz24_0
                try clear hfz24_1
                try clear hfz24_2
                try clear hfz24_3
                try clear hfz24_4
                try clear hfz24_5
                try clear hfz24_6
                try clear hfz24_7
                try clear hfz25_0
                try clear hfz25_1
                try clear hfz25_2
                try clear hfz25_3
                try clear hfz25_4
                try clear hfz25_5
                try clear hfz25_6
                try clear hfz25_7
                try clear hfz27_0
                try clear hfz27_1
                try clear hfz27_2
                try clear hfz27_3
                try clear hfz27_4
                try clear hfz27_5
                try clear hfz27_6
                try clear hfz27_7
                try clear hfz28_0
                try clear hfz28_1
                try clear hfz28_2
                try clear hfz28_3
                try clear hfz28_4
                try clear hfz28_5
                try clear hfz28_6
                try clear hfz28_7
                try clear hfz30_0
                try clear hfz30_1
                try clear hfz30_2
                try clear hfz30_3
                try clear hfz30_4
                try clear hfz30_5
                try clear hfz30_6
                try clear hfz30_7
                try clear hfz31_0
                try clear hfz31_1
                try clear hfz31_2
                try clear hfz31_3
                try clear hfz31_4
                try clear hfz31_5
                try clear hfz31_6
                try clear hfz31_7
                try clear hfz33_0
                try clear hfz33_1
                try clear hfz33_2
                try clear hfz33_3
                try clear hfz33_4
                try clear hfz33_5
                try clear hfz33_6
                try clear hfz33_7
                try clear hfz34_0
                try clear hfz34_1
                try clear hfz34_2
                try clear hfz34_3
                try clear hfz34_4
                try clear hfz34_5
                try clear hfz34_6
                try clear hfz34_7
                try clear hfz39_0
                try clear hfz39_1
                try clear hfz39_2
                try clear hfz39_3
                try clear hfz39_4
                try clear hfz39_5
                try clear hfz39_6
                try clear hfz39_7
                try clear hfz40_0
                try clear hfz40_1
                try clear hfz40_2
                try clear hfz40_3
                try clear hfz40_4
                try clear hfz40_5
                try clear hfz40_6
                try clear hfz40_7
                try clear hfz42_0
                try clear hfz42_1
                try clear hfz42_2
                try clear hfz42_3
                try clear hfz42_4
                try clear hfz42_5
                try clear hfz42_6
                try clear hfz42_7
                try clear hfz43_0
                try clear hfz43_1
                try clear hfz43_2
                try clear hfz43_3
                try clear hfz43_4
                try clear hfz43_5
                try clear hfz43_6
                try clear hfz43_7
                try clear hfz45_0
                try clear hfz45_1
                try clear hfz45_2
                try clear hfz45_3
                try clear hfz45_4
                try clear hfz45_5
                try clear hfz45_6
                try clear hfz45_7
                try clear hfz46_0
                try clear hfz46_1
                try clear hfz46_2
                try clear hfz46_3
                try clear hfz46_4
                try clear hfz46_5
                try clear hfz46_6
                try clear hfz46_7
                try clear hfz48_0
                try clear hfz48_1
                try clear hfz48_2
                try clear hfz48_3
                try clear hfz48_4
                try clear hfz48_5
                try clear hfz48_6
                try clear hfz48_7
                try clear hfz49_0
                try clear hfz49_1
                try clear hfz49_2
                try clear hfz49_3
                try clear hfz49_4
                try clear hfz49_5
                try clear hfz49_6
                try clear hfz49_7
                try clear hfz51_0
                try clear hfz51_1
                try clear hfz51_2
                try clear hfz51_3
                try clear hfz51_4
                try clear hfz51_5
                try clear hfz51_6
                try clear hfz51_7
                try clear hfz52_0
                try clear hfz52_1
                try clear hfz52_2
                try clear hfz52_3
                try clear hfz52_4
                try clear hfz52_5
                try clear hfz52_6
                try clear hfz52_7
                try clear hx117_0
                try clear hx117_1
                try clear hx117_2
                try clear hx117_3
                try clear hx117_4
                try clear hx117_5
                try clear hx117_6
                try clear hx117_7
                try clear hx119_0
                try clear hx119_1
                try clear hx119_2
                try clear hx119_3
                try clear hx119_4
                try clear hx119_5
                try clear hx119_6
                try clear hx119_7
                try clear p117
                try clear p119
                try clear p2
                try clear q117
                try clear q119
                obtain ⟨kq, x71_7, rfl, HA, HJ7, BK118, BK120, HB⟩ := hcut
                cases kq with
                | zero => exact absurd HA.out (by simp [tmplpiperef12_Equal.j1])
                | succ kj7 =>
                  have H := HA.out
                  clear HA
                  simp only [tmplpiperef12_Equal.j1] at H
                  by_cases c53 : x71_7 = true
                  · subst c53
                    have H1 : (some false) = some r := by rw [if_pos rfl] at H; exact H
                    clear H
                    have H := H1
                    clear H1
                    obtain rfl := Option.some.inj H
                    go_wp2
                    go_ret
                    exact ⟨by first | rfl | (simp [errW_none, errW_some] <;> rfl) | (simp [*, errW_none, errW_some] <;> rfl), by repeat (first | (with_reducible first | exact HB.out | apply below_alloc | apply pw_below_drewN | apply below_drew1 | refine below_set ?_ GE118.out | refine below_set ?_ GE120.out) | exact HB.out)⟩
                  · replace c53 := Bool.eq_false_iff.mpr c53
                    subst c53
                    have H1 : ((tmplpiperef12_Equal.f kj7 ((rd_T39 l0 x7_1).f6) ((rd_T39 l1 x7_1).f6) a2).bind fun t121 => (if t121 = true then ((tmplpiperef12_Equal.f kj7 ((rd_T39 l0 x7_1).f7) ((rd_T39 l1 x7_1).f7) a2).bind fun t122 => (if t122 = true then (tmplpiperef12_Equal.l0 kj7 l0 l1 a2 (wrap64 (x7_1 + 1))) else (some false))) else (some false))) = some r := by rw [if_neg (show ¬ (false = true) by decide)] at H; exact H
                    clear H
                    have H := H1
                    clear H1
                    replace H := Option.bind_eq_some_iff.mp H
                    obtain ⟨t121, A540, H⟩ := H
                    replace H : (if t121 = true then ((tmplpiperef12_Equal.f kj7 ((rd_T39 l0 x7_1).f7) ((rd_T39 l1 x7_1).f7) a2).bind fun t122 => (if t122 = true then (tmplpiperef12_Equal.l0 kj7 l0 l1 a2 (wrap64 (x7_1 + 1))) else (some false))) else (some false)) = some r := H
                    have A54 := Aside0.mk A540
                    clear A540
                    by_cases c55 : t121 = true
                    · subst c55
                      have H1 : ((tmplpiperef12_Equal.f kj7 ((rd_T39 l0 x7_1).f7) ((rd_T39 l1 x7_1).f7) a2).bind fun t122 => (if t122 = true then (tmplpiperef12_Equal.l0 kj7 l0 l1 a2 (wrap64 (x7_1 + 1))) else (some false))) = some r := by rw [if_pos rfl] at H; exact H
                      clear H
                      have H := H1
                      clear H1
                      replace H := Option.bind_eq_some_iff.mp H
                      obtain ⟨t122, A560, H⟩ := H
                      replace H : (if t122 = true then (tmplpiperef12_Equal.l0 kj7 l0 l1 a2 (wrap64 (x7_1 + 1))) else (some false)) = some r := H
                      have A56 := Aside0.mk A560
                      clear A560
                      by_cases c57 : t122 = true
                      · subst c57
                        have H1 : (tmplpiperef12_Equal.l0 kj7 l0 l1 a2 (wrap64 (x7_1 + 1))) = some r := by rw [if_pos rfl] at H; exact H
                        clear H
                        have H := H1
                        clear H1
                        have H' := Aside0.mk H
                        clear H
                        have hnb58 := NB118_120.out
                        have hnc58 := NB120_118.out
                        have hcz59_0 : wc.cell? ⟨gb118, 0, none⟩ = some (.int .i64 ((rd_T39 l0 x7_1).f0)) := (blk_cell BK118.out 0).trans rfl
                        have hcz59_1 : wc.cell? ⟨gb118, 1, none⟩ = some (.int .i64 ((rd_T39 l0 x7_1).f1)) := (blk_cell BK118.out 1).trans rfl
                        have hcz59_2 : wc.cell? ⟨gb118, 2, none⟩ = some (.string ((rd_T39 l0 x7_1).f2)) := (blk_cell BK118.out 2).trans rfl
                        have hcz59_3 : wc.cell? ⟨gb118, 3, none⟩ = some (.string ((rd_T39 l0 x7_1).f3)) := (blk_cell BK118.out 3).trans rfl
                        have hcz59_4 : wc.cell? ⟨gb118, 4, none⟩ = some (.bool ((rd_T39 l0 x7_1).f4)) := (blk_cell BK118.out 4).trans rfl
                        have hcz59_5 : wc.cell? ⟨gb118, 5, none⟩ = some (.bool ((rd_T39 l0 x7_1).f5)) := (blk_cell BK118.out 5).trans rfl
                        have hcz59_6 : wc.cell? ⟨gb118, 6, none⟩ = some (.slice A117_6 ((rd_T39 l0 x7_1).f6).length c117_6) := (blk_cell BK118.out 6).trans rfl
                        have hcz59_7 : wc.cell? ⟨gb118, 7, none⟩ = some (.slice A117_7 ((rd_T39 l0 x7_1).f7).length c117_7) := (blk_cell BK118.out 7).trans rfl
                        have hfz59_0 := blk_frozen BK118.out 0
                        have hfz59_1 := blk_frozen BK118.out 1
                        have hfz59_2 := blk_frozen BK118.out 2
                        have hfz59_3 := blk_frozen BK118.out 3
                        have hfz59_4 := blk_frozen BK118.out 4
                        have hfz59_5 := blk_frozen BK118.out 5
                        have hfz59_6 := blk_frozen BK118.out 6
                        have hfz59_7 := blk_frozen BK118.out 7
                        have hcz60_0 : wc.cell? ⟨gb120, 0, none⟩ = some (.int .i64 ((rd_T39 l1 x7_1).f0)) := (blk_cell BK120.out 0).trans rfl
                        have hcz60_1 : wc.cell? ⟨gb120, 1, none⟩ = some (.int .i64 ((rd_T39 l1 x7_1).f1)) := (blk_cell BK120.out 1).trans rfl
                        have hcz60_2 : wc.cell? ⟨gb120, 2, none⟩ = some (.string ((rd_T39 l1 x7_1).f2)) := (blk_cell BK120.out 2).trans rfl
                        have hcz60_3 : wc.cell? ⟨gb120, 3, none⟩ = some (.string ((rd_T39 l1 x7_1).f3)) := (blk_cell BK120.out 3).trans rfl
                        have hcz60_4 : wc.cell? ⟨gb120, 4, none⟩ = some (.bool ((rd_T39 l1 x7_1).f4)) := (blk_cell BK120.out 4).trans rfl
                        have hcz60_5 : wc.cell? ⟨gb120, 5, none⟩ = some (.bool ((rd_T39 l1 x7_1).f5)) := (blk_cell BK120.out 5).trans rfl
                        have hcz60_6 : wc.cell? ⟨gb120, 6, none⟩ = some (.slice A119_6 ((rd_T39 l1 x7_1).f6).length c119_6) := (blk_cell BK120.out 6).trans rfl
                        have hcz60_7 : wc.cell? ⟨gb120, 7, none⟩ = some (.slice A119_7 ((rd_T39 l1 x7_1).f7).length c119_7) := (blk_cell BK120.out 7).trans rfl
                        have hfz60_0 := blk_frozen BK120.out 0
                        have hfz60_1 := blk_frozen BK120.out 1
                        have hfz60_2 := blk_frozen BK120.out 2
                        have hfz60_3 := blk_frozen BK120.out 3
                        have hfz60_4 := blk_frozen BK120.out 4
                        have hfz60_5 := blk_frozen BK120.out 5
                        have hfz60_6 := blk_frozen BK120.out 6
                        have hfz60_7 := blk_frozen BK120.out 7
                        go_wp2_with (first | ((with_reducible refine gate_callee (f := 21) rfl ?_); refine goesL_ (some 77) rfl rfl Tryd.func21 (by kernel_rfl) rfl #[.slice A117_6 ((rd_T39 l0 x7_1).f6).length c117_6, .slice A119_6 ((rd_T39 l1 x7_1).f6).length c119_6, .bool a2] rfl (by (try simp only [List.map_toArray, List.map_cons, List.map_nil]); first | done | rfl | (simp only [List.length_drop, List.length_take]; rfl)) ?_; (with_reducible refine (ih kj7 (by have := HK1.out; have := HJ7.out; omega) _ _ ((rd_T39 l0 x7_1).f6) _ _ ((rd_T39 l1 x7_1).f6) a2 true _ ?side1 ?side2 ?side3 ?side4 A54.out).mono ?_); (case side1 => repeat (first | exact (Kd.C_below HR117_6.out HB.out) | (with_reducible refine Kd.C_alloc ?_ _) | (with_reducible refine Kd.C_drewN ?_ _) | (with_reducible refine Kd.C_drew ?_))); (case side2 => exact HC117_6.out); (case side3 => repeat (first | exact (Kd.C_below HR119_6.out HB.out) | (with_reducible refine Kd.C_alloc ?_ _) | (with_reducible refine Kd.C_drewN ?_ _) | (with_reducible refine Kd.C_drew ?_))); (case side4 => exact HC119_6.out); rintro e w61 ⟨rfl, hb⟩; refine ⟨_, rfl, ?_⟩; have n0_ := Aside0.mk (blk_below (g := gb118) (o := .cells #[.int .i64 ((rd_T39 l0 x7_1).f0), .int .i64 ((rd_T39 l0 x7_1).f1), .string ((rd_T39 l0 x7_1).f2), .string ((rd_T39 l0 x7_1).f3), .bool ((rd_T39 l0 x7_1).f4), .bool ((rd_T39 l0 x7_1).f5), .slice A117_6 ((rd_T39 l0 x7_1).f6).length c117_6, .slice A117_7 ((rd_T39 l0 x7_1).f7).length c117_7] 39 (0, 0)) (by (with_reducible repeat (first | refine blk_drewN ?_ _ | refine blk_drew ?_ | refine blk_alloc ?_ _)); exact BK118.out) hb); have n1_ := Aside0.mk (blk_below (g := gb120) (o := .cells #[.int .i64 ((rd_T39 l1 x7_1).f0), .int .i64 ((rd_T39 l1 x7_1).f1), .string ((rd_T39 l1 x7_1).f2), .string ((rd_T39 l1 x7_1).f3), .bool ((rd_T39 l1 x7_1).f4), .bool ((rd_T39 l1 x7_1).f5), .slice A119_6 ((rd_T39 l1 x7_1).f6).length c119_6, .slice A119_7 ((rd_T39 l1 x7_1).f7).length c119_7] 39 (0, 0)) (by (with_reducible repeat (first | refine blk_drewN ?_ _ | refine blk_drew ?_ | refine blk_alloc ?_ _)); exact BK120.out) hb); have n2_ := Aside0.mk (below_step (by repeat (first | (with_reducible first | exact HB.out | apply below_alloc | apply pw_below_drewN | apply below_drew1 | refine below_set ?_ GE118.out | refine below_set ?_ GE120.out) | exact HB.out)) hb); clear BK118; clear BK120; clear HB; have BK118 := n0_; have BK120 := n1_; have HB := n2_; clear n0_ n1_ n2_; (try clear hb); (try clear hb2); (try clear hk); (try clear hi); have hcz62_0 : w61.cell? ⟨gb118, 0, none⟩ = some (.int .i64 ((rd_T39 l0 x7_1).f0)) := (blk_cell BK118.out 0).trans rfl; have hcz62_1 : w61.cell? ⟨gb118, 1, none⟩ = some (.int .i64 ((rd_T39 l0 x7_1).f1)) := (blk_cell BK118.out 1).trans rfl; have hcz62_2 : w61.cell? ⟨gb118, 2, none⟩ = some (.string ((rd_T39 l0 x7_1).f2)) := (blk_cell BK118.out 2).trans rfl; have hcz62_3 : w61.cell? ⟨gb118, 3, none⟩ = some (.string ((rd_T39 l0 x7_1).f3)) := (blk_cell BK118.out 3).trans rfl; have hcz62_4 : w61.cell? ⟨gb118, 4, none⟩ = some (.bool ((rd_T39 l0 x7_1).f4)) := (blk_cell BK118.out 4).trans rfl; have hcz62_5 : w61.cell? ⟨gb118, 5, none⟩ = some (.bool ((rd_T39 l0 x7_1).f5)) := (blk_cell BK118.out 5).trans rfl; have hcz62_6 : w61.cell? ⟨gb118, 6, none⟩ = some (.slice A117_6 ((rd_T39 l0 x7_1).f6).length c117_6) := (blk_cell BK118.out 6).trans rfl; have hcz62_7 : w61.cell? ⟨gb118, 7, none⟩ = some (.slice A117_7 ((rd_T39 l0 x7_1).f7).length c117_7) := (blk_cell BK118.out 7).trans rfl; have hfz62_0 := blk_frozen BK118.out 0; have hfz62_1 := blk_frozen BK118.out 1; have hfz62_2 := blk_frozen BK118.out 2; have hfz62_3 := blk_frozen BK118.out 3; have hfz62_4 := blk_frozen BK118.out 4; have hfz62_5 := blk_frozen BK118.out 5; have hfz62_6 := blk_frozen BK118.out 6; have hfz62_7 := blk_frozen BK118.out 7; have hcz63_0 : w61.cell? ⟨gb120, 0, none⟩ = some (.int .i64 ((rd_T39 l1 x7_1).f0)) := (blk_cell BK120.out 0).trans rfl; have hcz63_1 : w61.cell? ⟨gb120, 1, none⟩ = some (.int .i64 ((rd_T39 l1 x7_1).f1)) := (blk_cell BK120.out 1).trans rfl; have hcz63_2 : w61.cell? ⟨gb120, 2, none⟩ = some (.string ((rd_T39 l1 x7_1).f2)) := (blk_cell BK120.out 2).trans rfl; have hcz63_3 : w61.cell? ⟨gb120, 3, none⟩ = some (.string ((rd_T39 l1 x7_1).f3)) := (blk_cell BK120.out 3).trans rfl; have hcz63_4 : w61.cell? ⟨gb120, 4, none⟩ = some (.bool ((rd_T39 l1 x7_1).f4)) := (blk_cell BK120.out 4).trans rfl; have hcz63_5 : w61.cell? ⟨gb120, 5, none⟩ = some (.bool ((rd_T39 l1 x7_1).f5)) := (blk_cell BK120.out 5).trans rfl; have hcz63_6 : w61.cell? ⟨gb120, 6, none⟩ = some (.slice A119_6 ((rd_T39 l1 x7_1).f6).length c119_6) := (blk_cell BK120.out 6).trans rfl; have hcz63_7 : w61.cell? ⟨gb120, 7, none⟩ = some (.slice A119_7 ((rd_T39 l1 x7_1).f7).length c119_7) := (blk_cell BK120.out 7).trans rfl; have hfz63_0 := blk_frozen BK120.out 0; have hfz63_1 := blk_frozen BK120.out 1; have hfz63_2 := blk_frozen BK120.out 2; have hfz63_3 := blk_frozen BK120.out 3; have hfz63_4 := blk_frozen BK120.out 4; have hfz63_5 := blk_frozen BK120.out 5; have hfz63_6 := blk_frozen BK120.out 6; have hfz63_7 := blk_frozen BK120.out 7) | (go_at_call 21; (with_reducible refine (ih kj7 (by have := HK1.out; have := HJ7.out; omega) _ _ ((rd_T39 l0 x7_1).f7) _ _ ((rd_T39 l1 x7_1).f7) a2 true _ ?side1 ?side2 ?side3 ?side4 A56.out).mono ?_); (case side1 => repeat (first | exact (Kd.C_below HR117_7.out HB.out) | (with_reducible refine Kd.C_alloc ?_ _) | (with_reducible refine Kd.C_drewN ?_ _) | (with_reducible refine Kd.C_drew ?_))); (case side2 => exact HC117_7.out); (case side3 => repeat (first | exact (Kd.C_below HR119_7.out HB.out) | (with_reducible refine Kd.C_alloc ?_ _) | (with_reducible refine Kd.C_drewN ?_ _) | (with_reducible refine Kd.C_drew ?_))); (case side4 => exact HC119_7.out); rintro e w64 ⟨rfl, hb⟩; have n0_ := Aside0.mk (blk_below (g := gb118) (o := .cells #[.int .i64 ((rd_T39 l0 x7_1).f0), .int .i64 ((rd_T39 l0 x7_1).f1), .string ((rd_T39 l0 x7_1).f2), .string ((rd_T39 l0 x7_1).f3), .bool ((rd_T39 l0 x7_1).f4), .bool ((rd_T39 l0 x7_1).f5), .slice A117_6 ((rd_T39 l0 x7_1).f6).length c117_6, .slice A117_7 ((rd_T39 l0 x7_1).f7).length c117_7] 39 (0, 0)) (by (with_reducible repeat (first | refine blk_drewN ?_ _ | refine blk_drew ?_ | refine blk_alloc ?_ _)); exact BK118.out) hb); have n1_ := Aside0.mk (blk_below (g := gb120) (o := .cells #[.int .i64 ((rd_T39 l1 x7_1).f0), .int .i64 ((rd_T39 l1 x7_1).f1), .string ((rd_T39 l1 x7_1).f2), .string ((rd_T39 l1 x7_1).f3), .bool ((rd_T39 l1 x7_1).f4), .bool ((rd_T39 l1 x7_1).f5), .slice A119_6 ((rd_T39 l1 x7_1).f6).length c119_6, .slice A119_7 ((rd_T39 l1 x7_1).f7).length c119_7] 39 (0, 0)) (by (with_reducible repeat (first | refine blk_drewN ?_ _ | refine blk_drew ?_ | refine blk_alloc ?_ _)); exact BK120.out) hb); have n2_ := Aside0.mk (below_step (by repeat (first | (with_reducible first | exact HB.out | apply below_alloc | apply pw_below_drewN | apply below_drew1 | refine below_set ?_ GE118.out | refine below_set ?_ GE120.out) | exact HB.out)) hb); clear BK118; clear BK120; clear HB; have BK118 := n0_; have BK120 := n1_; have HB := n2_; clear n0_ n1_ n2_; (try clear hb); (try clear hb2); (try clear hk); (try clear hi)))
                        go_roundg kj7
                        case measure => have := HK1.out; have := HJ7.out; omega
                        case rel => exact ⟨(wrap64 (x7_1 + 1)), (by first | rfl | (simp; done) | (simp [*]; done)), H', ⟨by have := HK1.out; have := HJ7.out; omega⟩, ⟨by repeat (first | (with_reducible first | exact HB.out | apply below_alloc | apply pw_below_drewN | apply below_drew1 | refine below_set ?_ GE118.out | refine below_set ?_ GE120.out) | exact HB.out)⟩⟩
                      · replace c57 := Bool.eq_false_iff.mpr c57
                        subst c57
                        have H1 : (some false) = some r := by rw [if_neg (show ¬ (false = true) by decide)] at H; exact H
                        clear H
                        have H := H1
                        clear H1
                        obtain rfl := Option.some.inj H
                        have hnb65 := NB118_120.out
                        have hnc65 := NB120_118.out
                        have hcz66_0 : wc.cell? ⟨gb118, 0, none⟩ = some (.int .i64 ((rd_T39 l0 x7_1).f0)) := (blk_cell BK118.out 0).trans rfl
                        have hcz66_1 : wc.cell? ⟨gb118, 1, none⟩ = some (.int .i64 ((rd_T39 l0 x7_1).f1)) := (blk_cell BK118.out 1).trans rfl
                        have hcz66_2 : wc.cell? ⟨gb118, 2, none⟩ = some (.string ((rd_T39 l0 x7_1).f2)) := (blk_cell BK118.out 2).trans rfl
                        have hcz66_3 : wc.cell? ⟨gb118, 3, none⟩ = some (.string ((rd_T39 l0 x7_1).f3)) := (blk_cell BK118.out 3).trans rfl
                        have hcz66_4 : wc.cell? ⟨gb118, 4, none⟩ = some (.bool ((rd_T39 l0 x7_1).f4)) := (blk_cell BK118.out 4).trans rfl
                        have hcz66_5 : wc.cell? ⟨gb118, 5, none⟩ = some (.bool ((rd_T39 l0 x7_1).f5)) := (blk_cell BK118.out 5).trans rfl
                        have hcz66_6 : wc.cell? ⟨gb118, 6, none⟩ = some (.slice A117_6 ((rd_T39 l0 x7_1).f6).length c117_6) := (blk_cell BK118.out 6).trans rfl
                        have hcz66_7 : wc.cell? ⟨gb118, 7, none⟩ = some (.slice A117_7 ((rd_T39 l0 x7_1).f7).length c117_7) := (blk_cell BK118.out 7).trans rfl
                        have hfz66_0 := blk_frozen BK118.out 0
                        have hfz66_1 := blk_frozen BK118.out 1
                        have hfz66_2 := blk_frozen BK118.out 2
                        have hfz66_3 := blk_frozen BK118.out 3
                        have hfz66_4 := blk_frozen BK118.out 4
                        have hfz66_5 := blk_frozen BK118.out 5
                        have hfz66_6 := blk_frozen BK118.out 6
                        have hfz66_7 := blk_frozen BK118.out 7
                        have hcz67_0 : wc.cell? ⟨gb120, 0, none⟩ = some (.int .i64 ((rd_T39 l1 x7_1).f0)) := (blk_cell BK120.out 0).trans rfl
                        have hcz67_1 : wc.cell? ⟨gb120, 1, none⟩ = some (.int .i64 ((rd_T39 l1 x7_1).f1)) := (blk_cell BK120.out 1).trans rfl
                        have hcz67_2 : wc.cell? ⟨gb120, 2, none⟩ = some (.string ((rd_T39 l1 x7_1).f2)) := (blk_cell BK120.out 2).trans rfl
                        have hcz67_3 : wc.cell? ⟨gb120, 3, none⟩ = some (.string ((rd_T39 l1 x7_1).f3)) := (blk_cell BK120.out 3).trans rfl
                        have hcz67_4 : wc.cell? ⟨gb120, 4, none⟩ = some (.bool ((rd_T39 l1 x7_1).f4)) := (blk_cell BK120.out 4).trans rfl
                        have hcz67_5 : wc.cell? ⟨gb120, 5, none⟩ = some (.bool ((rd_T39 l1 x7_1).f5)) := (blk_cell BK120.out 5).trans rfl
                        have hcz67_6 : wc.cell? ⟨gb120, 6, none⟩ = some (.slice A119_6 ((rd_T39 l1 x7_1).f6).length c119_6) := (blk_cell BK120.out 6).trans rfl
                        have hcz67_7 : wc.cell? ⟨gb120, 7, none⟩ = some (.slice A119_7 ((rd_T39 l1 x7_1).f7).length c119_7) := (blk_cell BK120.out 7).trans rfl
                        have hfz67_0 := blk_frozen BK120.out 0
                        have hfz67_1 := blk_frozen BK120.out 1
                        have hfz67_2 := blk_frozen BK120.out 2
                        have hfz67_3 := blk_frozen BK120.out 3
                        have hfz67_4 := blk_frozen BK120.out 4
                        have hfz67_5 := blk_frozen BK120.out 5
                        have hfz67_6 := blk_frozen BK120.out 6
                        have hfz67_7 := blk_frozen BK120.out 7
                        go_wp2_with (first | ((with_reducible refine gate_callee (f := 21) rfl ?_); refine goesL_ (some 77) rfl rfl Tryd.func21 (by kernel_rfl) rfl #[.slice A117_6 ((rd_T39 l0 x7_1).f6).length c117_6, .slice A119_6 ((rd_T39 l1 x7_1).f6).length c119_6, .bool a2] rfl (by (try simp only [List.map_toArray, List.map_cons, List.map_nil]); first | done | rfl | (simp only [List.length_drop, List.length_take]; rfl)) ?_; (with_reducible refine (ih kj7 (by have := HK1.out; have := HJ7.out; omega) _ _ ((rd_T39 l0 x7_1).f6) _ _ ((rd_T39 l1 x7_1).f6) a2 true _ ?side1 ?side2 ?side3 ?side4 A54.out).mono ?_); (case side1 => repeat (first | exact (Kd.C_below HR117_6.out HB.out) | (with_reducible refine Kd.C_alloc ?_ _) | (with_reducible refine Kd.C_drewN ?_ _) | (with_reducible refine Kd.C_drew ?_))); (case side2 => exact HC117_6.out); (case side3 => repeat (first | exact (Kd.C_below HR119_6.out HB.out) | (with_reducible refine Kd.C_alloc ?_ _) | (with_reducible refine Kd.C_drewN ?_ _) | (with_reducible refine Kd.C_drew ?_))); (case side4 => exact HC119_6.out); rintro e w68 ⟨rfl, hb⟩; refine ⟨_, rfl, ?_⟩; have n0_ := Aside0.mk (blk_below (g := gb118) (o := .cells #[.int .i64 ((rd_T39 l0 x7_1).f0), .int .i64 ((rd_T39 l0 x7_1).f1), .string ((rd_T39 l0 x7_1).f2), .string ((rd_T39 l0 x7_1).f3), .bool ((rd_T39 l0 x7_1).f4), .bool ((rd_T39 l0 x7_1).f5), .slice A117_6 ((rd_T39 l0 x7_1).f6).length c117_6, .slice A117_7 ((rd_T39 l0 x7_1).f7).length c117_7] 39 (0, 0)) (by (with_reducible repeat (first | refine blk_drewN ?_ _ | refine blk_drew ?_ | refine blk_alloc ?_ _)); exact BK118.out) hb); have n1_ := Aside0.mk (blk_below (g := gb120) (o := .cells #[.int .i64 ((rd_T39 l1 x7_1).f0), .int .i64 ((rd_T39 l1 x7_1).f1), .string ((rd_T39 l1 x7_1).f2), .string ((rd_T39 l1 x7_1).f3), .bool ((rd_T39 l1 x7_1).f4), .bool ((rd_T39 l1 x7_1).f5), .slice A119_6 ((rd_T39 l1 x7_1).f6).length c119_6, .slice A119_7 ((rd_T39 l1 x7_1).f7).length c119_7] 39 (0, 0)) (by (with_reducible repeat (first | refine blk_drewN ?_ _ | refine blk_drew ?_ | refine blk_alloc ?_ _)); exact BK120.out) hb); have n2_ := Aside0.mk (below_step (by repeat (first | (with_reducible first | exact HB.out | apply below_alloc | apply pw_below_drewN | apply below_drew1 | refine below_set ?_ GE118.out | refine below_set ?_ GE120.out) | exact HB.out)) hb); clear BK118; clear BK120; clear HB; have BK118 := n0_; have BK120 := n1_; have HB := n2_; clear n0_ n1_ n2_; (try clear hb); (try clear hb2); (try clear hk); (try clear hi); have hcz69_0 : w68.cell? ⟨gb118, 0, none⟩ = some (.int .i64 ((rd_T39 l0 x7_1).f0)) := (blk_cell BK118.out 0).trans rfl; have hcz69_1 : w68.cell? ⟨gb118, 1, none⟩ = some (.int .i64 ((rd_T39 l0 x7_1).f1)) := (blk_cell BK118.out 1).trans rfl; have hcz69_2 : w68.cell? ⟨gb118, 2, none⟩ = some (.string ((rd_T39 l0 x7_1).f2)) := (blk_cell BK118.out 2).trans rfl; have hcz69_3 : w68.cell? ⟨gb118, 3, none⟩ = some (.string ((rd_T39 l0 x7_1).f3)) := (blk_cell BK118.out 3).trans rfl; have hcz69_4 : w68.cell? ⟨gb118, 4, none⟩ = some (.bool ((rd_T39 l0 x7_1).f4)) := (blk_cell BK118.out 4).trans rfl; have hcz69_5 : w68.cell? ⟨gb118, 5, none⟩ = some (.bool ((rd_T39 l0 x7_1).f5)) := (blk_cell BK118.out 5).trans rfl; have hcz69_6 : w68.cell? ⟨gb118, 6, none⟩ = some (.slice A117_6 ((rd_T39 l0 x7_1).f6).length c117_6) := (blk_cell BK118.out 6).trans rfl; have hcz69_7 : w68.cell? ⟨gb118, 7, none⟩ = some (.slice A117_7 ((rd_T39 l0 x7_1).f7).length c117_7) := (blk_cell BK118.out 7).trans rfl; have hfz69_0 := blk_frozen BK118.out 0; have hfz69_1 := blk_frozen BK118.out 1; have hfz69_2 := blk_frozen BK118.out 2; have hfz69_3 := blk_frozen BK118.out 3; have hfz69_4 := blk_frozen BK118.out 4; have hfz69_5 := blk_frozen BK118.out 5; have hfz69_6 := blk_frozen BK118.out 6; have hfz69_7 := blk_frozen BK118.out 7; have hcz70_0 : w68.cell? ⟨gb120, 0, none⟩ = some (.int .i64 ((rd_T39 l1 x7_1).f0)) := (blk_cell BK120.out 0).trans rfl; have hcz70_1 : w68.cell? ⟨gb120, 1, none⟩ = some (.int .i64 ((rd_T39 l1 x7_1).f1)) := (blk_cell BK120.out 1).trans rfl; have hcz70_2 : w68.cell? ⟨gb120, 2, none⟩ = some (.string ((rd_T39 l1 x7_1).f2)) := (blk_cell BK120.out 2).trans rfl; have hcz70_3 : w68.cell? ⟨gb120, 3, none⟩ = some (.string ((rd_T39 l1 x7_1).f3)) := (blk_cell BK120.out 3).trans rfl; have hcz70_4 : w68.cell? ⟨gb120, 4, none⟩ = some (.bool ((rd_T39 l1 x7_1).f4)) := (blk_cell BK120.out 4).trans rfl; have hcz70_5 : w68.cell? ⟨gb120, 5, none⟩ = some (.bool ((rd_T39 l1 x7_1).f5)) := (blk_cell BK120.out 5).trans rfl; have hcz70_6 : w68.cell? ⟨gb120, 6, none⟩ = some (.slice A119_6 ((rd_T39 l1 x7_1).f6).length c119_6) := (blk_cell BK120.out 6).trans rfl; have hcz70_7 : w68.cell? ⟨gb120, 7, none⟩ = some (.slice A119_7 ((rd_T39 l1 x7_1).f7).length c119_7) := (blk_cell BK120.out 7).trans rfl; have hfz70_0 := blk_frozen BK120.out 0; have hfz70_1 := blk_frozen BK120.out 1; have hfz70_2 := blk_frozen BK120.out 2; have hfz70_3 := blk_frozen BK120.out 3; have hfz70_4 := blk_frozen BK120.out 4; have hfz70_5 := blk_frozen BK120.out 5; have hfz70_6 := blk_frozen BK120.out 6; have hfz70_7 := blk_frozen BK120.out 7) | (go_at_call 21; (with_reducible refine (ih kj7 (by have := HK1.out; have := HJ7.out; omega) _ _ ((rd_T39 l0 x7_1).f7) _ _ ((rd_T39 l1 x7_1).f7) a2 false _ ?side1 ?side2 ?side3 ?side4 A56.out).mono ?_); (case side1 => repeat (first | exact (Kd.C_below HR117_7.out HB.out) | (with_reducible refine Kd.C_alloc ?_ _) | (with_reducible refine Kd.C_drewN ?_ _) | (with_reducible refine Kd.C_drew ?_))); (case side2 => exact HC117_7.out); (case side3 => repeat (first | exact (Kd.C_below HR119_7.out HB.out) | (with_reducible refine Kd.C_alloc ?_ _) | (with_reducible refine Kd.C_drewN ?_ _) | (with_reducible refine Kd.C_drew ?_))); (case side4 => exact HC119_7.out); rintro e w71 ⟨rfl, hb⟩; have n0_ := Aside0.mk (blk_below (g := gb118) (o := .cells #[.int .i64 ((rd_T39 l0 x7_1).f0), .int .i64 ((rd_T39 l0 x7_1).f1), .string ((rd_T39 l0 x7_1).f2), .string ((rd_T39 l0 x7_1).f3), .bool ((rd_T39 l0 x7_1).f4), .bool ((rd_T39 l0 x7_1).f5), .slice A117_6 ((rd_T39 l0 x7_1).f6).length c117_6, .slice A117_7 ((rd_T39 l0 x7_1).f7).length c117_7] 39 (0, 0)) (by (with_reducible repeat (first | refine blk_drewN ?_ _ | refine blk_drew ?_ | refine blk_alloc ?_ _)); exact BK118.out) hb); have n1_ := Aside0.mk (blk_below (g := gb120) (o := .cells #[.int .i64 ((rd_T39 l1 x7_1).f0), .int .i64 ((rd_T39 l1 x7_1).f1), .string ((rd_T39 l1 x7_1).f2), .string ((rd_T39 l1 x7_1).f3), .bool ((rd_T39 l1 x7_1).f4), .bool ((rd_T39 l1 x7_1).f5), .slice A119_6 ((rd_T39 l1 x7_1).f6).length c119_6, .slice A119_7 ((rd_T39 l1 x7_1).f7).length c119_7] 39 (0, 0)) (by (with_reducible repeat (first | refine blk_drewN ?_ _ | refine blk_drew ?_ | refine blk_alloc ?_ _)); exact BK120.out) hb); have n2_ := Aside0.mk (below_step (by repeat (first | (with_reducible first | exact HB.out | apply below_alloc | apply pw_below_drewN | apply below_drew1 | refine below_set ?_ GE118.out | refine below_set ?_ GE120.out) | exact HB.out)) hb); clear BK118; clear BK120; clear HB; have BK118 := n0_; have BK120 := n1_; have HB := n2_; clear n0_ n1_ n2_; (try clear hb); (try clear hb2); (try clear hk); (try clear hi)))
                        go_ret
                        exact ⟨by first | rfl | (simp [errW_none, errW_some] <;> rfl) | (simp [*, errW_none, errW_some] <;> rfl), by repeat (first | (with_reducible first | exact HB.out | apply below_alloc | apply pw_below_drewN | apply below_drew1 | refine below_set ?_ GE118.out | refine below_set ?_ GE120.out) | exact HB.out)⟩
                    · replace c55 := Bool.eq_false_iff.mpr c55
                      subst c55
                      have H1 : (some false) = some r := by rw [if_neg (show ¬ (false = true) by decide)] at H; exact H
                      clear H
                      have H := H1
                      clear H1
                      obtain rfl := Option.some.inj H
                      have hnb72 := NB118_120.out
                      have hnc72 := NB120_118.out
                      have hcz73_0 : wc.cell? ⟨gb118, 0, none⟩ = some (.int .i64 ((rd_T39 l0 x7_1).f0)) := (blk_cell BK118.out 0).trans rfl
                      have hcz73_1 : wc.cell? ⟨gb118, 1, none⟩ = some (.int .i64 ((rd_T39 l0 x7_1).f1)) := (blk_cell BK118.out 1).trans rfl
                      have hcz73_2 : wc.cell? ⟨gb118, 2, none⟩ = some (.string ((rd_T39 l0 x7_1).f2)) := (blk_cell BK118.out 2).trans rfl
                      have hcz73_3 : wc.cell? ⟨gb118, 3, none⟩ = some (.string ((rd_T39 l0 x7_1).f3)) := (blk_cell BK118.out 3).trans rfl
                      have hcz73_4 : wc.cell? ⟨gb118, 4, none⟩ = some (.bool ((rd_T39 l0 x7_1).f4)) := (blk_cell BK118.out 4).trans rfl
                      have hcz73_5 : wc.cell? ⟨gb118, 5, none⟩ = some (.bool ((rd_T39 l0 x7_1).f5)) := (blk_cell BK118.out 5).trans rfl
                      have hcz73_6 : wc.cell? ⟨gb118, 6, none⟩ = some (.slice A117_6 ((rd_T39 l0 x7_1).f6).length c117_6) := (blk_cell BK118.out 6).trans rfl
                      have hcz73_7 : wc.cell? ⟨gb118, 7, none⟩ = some (.slice A117_7 ((rd_T39 l0 x7_1).f7).length c117_7) := (blk_cell BK118.out 7).trans rfl
                      have hfz73_0 := blk_frozen BK118.out 0
                      have hfz73_1 := blk_frozen BK118.out 1
                      have hfz73_2 := blk_frozen BK118.out 2
                      have hfz73_3 := blk_frozen BK118.out 3
                      have hfz73_4 := blk_frozen BK118.out 4
                      have hfz73_5 := blk_frozen BK118.out 5
                      have hfz73_6 := blk_frozen BK118.out 6
                      have hfz73_7 := blk_frozen BK118.out 7
                      have hcz74_0 : wc.cell? ⟨gb120, 0, none⟩ = some (.int .i64 ((rd_T39 l1 x7_1).f0)) := (blk_cell BK120.out 0).trans rfl
                      have hcz74_1 : wc.cell? ⟨gb120, 1, none⟩ = some (.int .i64 ((rd_T39 l1 x7_1).f1)) := (blk_cell BK120.out 1).trans rfl
                      have hcz74_2 : wc.cell? ⟨gb120, 2, none⟩ = some (.string ((rd_T39 l1 x7_1).f2)) := (blk_cell BK120.out 2).trans rfl
                      have hcz74_3 : wc.cell? ⟨gb120, 3, none⟩ = some (.string ((rd_T39 l1 x7_1).f3)) := (blk_cell BK120.out 3).trans rfl
                      have hcz74_4 : wc.cell? ⟨gb120, 4, none⟩ = some (.bool ((rd_T39 l1 x7_1).f4)) := (blk_cell BK120.out 4).trans rfl
                      have hcz74_5 : wc.cell? ⟨gb120, 5, none⟩ = some (.bool ((rd_T39 l1 x7_1).f5)) := (blk_cell BK120.out 5).trans rfl
                      have hcz74_6 : wc.cell? ⟨gb120, 6, none⟩ = some (.slice A119_6 ((rd_T39 l1 x7_1).f6).length c119_6) := (blk_cell BK120.out 6).trans rfl
                      have hcz74_7 : wc.cell? ⟨gb120, 7, none⟩ = some (.slice A119_7 ((rd_T39 l1 x7_1).f7).length c119_7) := (blk_cell BK120.out 7).trans rfl
                      have hfz74_0 := blk_frozen BK120.out 0
                      have hfz74_1 := blk_frozen BK120.out 1
                      have hfz74_2 := blk_frozen BK120.out 2
                      have hfz74_3 := blk_frozen BK120.out 3
                      have hfz74_4 := blk_frozen BK120.out 4
                      have hfz74_5 := blk_frozen BK120.out 5
                      have hfz74_6 := blk_frozen BK120.out 6
                      have hfz74_7 := blk_frozen BK120.out 7
                      go_wp2_with (first | ((with_reducible refine gate_callee (f := 21) rfl ?_); refine goesL_ (some 77) rfl rfl Tryd.func21 (by kernel_rfl) rfl #[.slice A117_6 ((rd_T39 l0 x7_1).f6).length c117_6, .slice A119_6 ((rd_T39 l1 x7_1).f6).length c119_6, .bool a2] rfl (by (try simp only [List.map_toArray, List.map_cons, List.map_nil]); first | done | rfl | (simp only [List.length_drop, List.length_take]; rfl)) ?_; (with_reducible refine (ih kj7 (by have := HK1.out; have := HJ7.out; omega) _ _ ((rd_T39 l0 x7_1).f6) _ _ ((rd_T39 l1 x7_1).f6) a2 false _ ?side1 ?side2 ?side3 ?side4 A54.out).mono ?_); (case side1 => repeat (first | exact (Kd.C_below HR117_6.out HB.out) | (with_reducible refine Kd.C_alloc ?_ _) | (with_reducible refine Kd.C_drewN ?_ _) | (with_reducible refine Kd.C_drew ?_))); (case side2 => exact HC117_6.out); (case side3 => repeat (first | exact (Kd.C_below HR119_6.out HB.out) | (with_reducible refine Kd.C_alloc ?_ _) | (with_reducible refine Kd.C_drewN ?_ _) | (with_reducible refine Kd.C_drew ?_))); (case side4 => exact HC119_6.out); rintro e w75 ⟨rfl, hb⟩; refine ⟨_, rfl, ?_⟩; have n0_ := Aside0.mk (blk_below (g := gb118) (o := .cells #[.int .i64 ((rd_T39 l0 x7_1).f0), .int .i64 ((rd_T39 l0 x7_1).f1), .string ((rd_T39 l0 x7_1).f2), .string ((rd_T39 l0 x7_1).f3), .bool ((rd_T39 l0 x7_1).f4), .bool ((rd_T39 l0 x7_1).f5), .slice A117_6 ((rd_T39 l0 x7_1).f6).length c117_6, .slice A117_7 ((rd_T39 l0 x7_1).f7).length c117_7] 39 (0, 0)) (by (with_reducible repeat (first | refine blk_drewN ?_ _ | refine blk_drew ?_ | refine blk_alloc ?_ _)); exact BK118.out) hb); have n1_ := Aside0.mk (blk_below (g := gb120) (o := .cells #[.int .i64 ((rd_T39 l1 x7_1).f0), .int .i64 ((rd_T39 l1 x7_1).f1), .string ((rd_T39 l1 x7_1).f2), .string ((rd_T39 l1 x7_1).f3), .bool ((rd_T39 l1 x7_1).f4), .bool ((rd_T39 l1 x7_1).f5), .slice A119_6 ((rd_T39 l1 x7_1).f6).length c119_6, .slice A119_7 ((rd_T39 l1 x7_1).f7).length c119_7] 39 (0, 0)) (by (with_reducible repeat (first | refine blk_drewN ?_ _ | refine blk_drew ?_ | refine blk_alloc ?_ _)); exact BK120.out) hb); have n2_ := Aside0.mk (below_step (by repeat (first | (with_reducible first | exact HB.out | apply below_alloc | apply pw_below_drewN | apply below_drew1 | refine below_set ?_ GE118.out | refine below_set ?_ GE120.out) | exact HB.out)) hb); clear BK118; clear BK120; clear HB; have BK118 := n0_; have BK120 := n1_; have HB := n2_; clear n0_ n1_ n2_; (try clear hb); (try clear hb2); (try clear hk); (try clear hi)))
                      go_ret
                      exact ⟨by first | rfl | (simp [errW_none, errW_some] <;> rfl) | (simp [*, errW_none, errW_some] <;> rfl), by repeat (first | (with_reducible first | exact HB.out | apply below_alloc | apply pw_below_drewN | apply below_drew1 | refine below_set ?_ GE118.out | refine below_set ?_ GE120.out) | exact HB.out)⟩
            · rw [if_neg c7] at H
              exact absurd H (by simp)
          · rw [if_neg c6] at H
            exact absurd H (by simp)
        · rw [if_neg c5] at H
          have c5b0 : decide (x7_1 < (l0.length : Int)) = false := decide_eq_false c5
          clear c5
          obtain rfl := Option.some.inj H
          go_wp2
          go_ret
          exact ⟨by first | rfl | (simp [errW_none, errW_some] <;> rfl) | (simp [*, errW_none, errW_some] <;> rfl), by repeat (first | (with_reducible first | exact HB.out | apply below_alloc | apply pw_below_drewN | apply below_drew1) | exact HB.out)⟩
  · rw [if_neg c4] at H
    have c4b0 : ((l0.length : Int) == (l1.length : Int)) = false := beq_eq_false_iff_ne.mpr c4
    have c4b1 : ((l0.length : Int) != (l1.length : Int)) = true := bne_iff_ne.mpr c4
    have c4b2 : (l0.length == l1.length) = false := by first | simpa using c4 | (simp at c4 ⊢; omega)
    obtain rfl := Option.some.inj H
    go_enter Tryd.func21, Tryd.ntmps21
    go_wp2
    go_ret
    exact ⟨by first | rfl | (simp [errW_none, errW_some] <;> rfl) | (simp [*, errW_none, errW_some] <;> rfl), by repeat (first | (with_reducible first | exact HB.out | apply below_alloc | apply pw_below_drewN | apply below_drew1) | exact HB.out)⟩
end Go.Proofs.YtgdpojleejdfaaaDoor.Px
