-- written by a program of this session (wip/tools/myprint.py) over the kit's printer; Lean checks it.
import Derived.Test.YtgdpojleejdfaaaDoorPx0
namespace Go.Proofs.YtgdpojleejdfaaaDoor.Px
open Go.RowKit Go.Proofs.YtgdpojleejdfaaaDoorW.PrintWords Go.Proofs.YtgdpojleejdfaaaDoorW.PrintLast Go.Proofs.YtgdpojleejdfaaaDoorW.PrintMore
attribute [local go_sem] max2_int min2_int max_two min_two max_three min_three max_four min_four   -- for this text's walks alone
set_option linter.unusedVariables false
set_option linter.unusedSimpArgs false

/-! ### tmplpiperef11_Format: function 26 -/
mutual
def tmplpiperef11_Format.j0 : Nat → ByteArray → Bool → Int → Int → ByteArray → ByteArray → Bool → Option (ByteArray)
  | 0, _, _, _, _, _, _, _ => none
  | k + 1, x3, x21, x185000, x185001, x185002, x185003, x185004 => if x21 = true then (if x3.size + 1 ≤ 9223372036854775807 then (if (x3 ++ (⟨#[32]⟩ : ByteArray)).size + x185002.size ≤ 9223372036854775807 then (tmplpiperef11_Format.j1 k ((x3 ++ (⟨#[32]⟩ : ByteArray)) ++ x185002) x185000 x185001 x185002 x185003 x185004) else (none)) else (none)) else (tmplpiperef11_Format.j1 k x3 x185000 x185001 x185002 x185003 x185004)
def tmplpiperef11_Format.j1 : Nat → ByteArray → Int → Int → ByteArray → ByteArray → Bool → Option (ByteArray)
  | 0, _, _, _, _, _, _ => none
  | k + 1, x3, x185000, x185001, x185002, x185003, x185004 => if x185004 = true then (if x3.toList = ([] : List UInt8) then (if x3.size + 1 ≤ 9223372036854775807 then (if (x3 ++ (⟨#[46]⟩ : ByteArray)).size + x185003.size ≤ 9223372036854775807 then (if 2 + ((x3 ++ (⟨#[46]⟩ : ByteArray)) ++ x185003).size ≤ 9223372036854775807 then (if ((⟨#[123, 123]⟩ : ByteArray) ++ ((x3 ++ (⟨#[46]⟩ : ByteArray)) ++ x185003)).size + 2 ≤ 9223372036854775807 then (some (((⟨#[123, 123]⟩ : ByteArray) ++ ((x3 ++ (⟨#[46]⟩ : ByteArray)) ++ x185003)) ++ (⟨#[125, 125]⟩ : ByteArray))) else (none)) else (none)) else (none)) else (none)) else (if x3.size + 1 ≤ 9223372036854775807 then (if (x3 ++ (⟨#[32]⟩ : ByteArray)).size + 1 ≤ 9223372036854775807 then (if ((x3 ++ (⟨#[32]⟩ : ByteArray)) ++ (⟨#[46]⟩ : ByteArray)).size + x185003.size ≤ 9223372036854775807 then (if 2 + (((x3 ++ (⟨#[32]⟩ : ByteArray)) ++ (⟨#[46]⟩ : ByteArray)) ++ x185003).size ≤ 9223372036854775807 then (if ((⟨#[123, 123]⟩ : ByteArray) ++ (((x3 ++ (⟨#[32]⟩ : ByteArray)) ++ (⟨#[46]⟩ : ByteArray)) ++ x185003)).size + 2 ≤ 9223372036854775807 then (some (((⟨#[123, 123]⟩ : ByteArray) ++ (((x3 ++ (⟨#[32]⟩ : ByteArray)) ++ (⟨#[46]⟩ : ByteArray)) ++ x185003)) ++ (⟨#[125, 125]⟩ : ByteArray))) else (none)) else (none)) else (none)) else (none)) else (none))) else (if 2 + x3.size ≤ 9223372036854775807 then (if ((⟨#[123, 123]⟩ : ByteArray) ++ x3).size + 2 ≤ 9223372036854775807 then (some (((⟨#[123, 123]⟩ : ByteArray) ++ x3) ++ (⟨#[125, 125]⟩ : ByteArray))) else (none)) else (none))
end
def tmplpiperef11_Format.f (k : Nat) (a0_0 : Int) (a0_1 : Int) (a0_2 : ByteArray) (a0_3 : ByteArray) (a0_4 : Bool) : Option (ByteArray) := if a0_0 = 0 then (some a0_2) else ((some (([(⟨#[]⟩ : ByteArray), (⟨#[]⟩ : ByteArray), (⟨#[105, 102]⟩ : ByteArray), (⟨#[114, 97, 110, 103, 101]⟩ : ByteArray), (⟨#[99, 97, 108, 108]⟩ : ByteArray), (⟨#[102, 108, 117, 115, 104]⟩ : ByteArray), (⟨#[100, 101, 102, 105, 110, 101]⟩ : ByteArray), (⟨#[101, 108, 115, 101]⟩ : ByteArray), (⟨#[101, 110, 100]⟩ : ByteArray)] : List ByteArray) : List ByteArray)).bind fun y185 => (if 0 ≤ a0_0 then (if a0_0 < (y185.length : Int) then (if a0_0 = 4 then (tmplpiperef11_Format.j0 k (rdOf ByteArray.empty y185 a0_0) true a0_0 a0_1 a0_2 a0_3 a0_4) else (tmplpiperef11_Format.j0 k (rdOf ByteArray.empty y185 a0_0) (a0_0 == 6) a0_0 a0_1 a0_2 a0_3 a0_4)) else (none)) else (none)))
theorem tmplpiperef11_Format.mono_l : ∀ k, (∀ y0 y1 y2 y3 y4 y5 y6, LeO (tmplpiperef11_Format.j0 k y0 y1 y2 y3 y4 y5 y6) (tmplpiperef11_Format.j0 (k + 1) y0 y1 y2 y3 y4 y5 y6)) ∧ (∀ y0 y1 y2 y3 y4 y5, LeO (tmplpiperef11_Format.j1 k y0 y1 y2 y3 y4 y5) (tmplpiperef11_Format.j1 (k + 1) y0 y1 y2 y3 y4 y5))
  | 0 => ⟨fun _ _ _ _ _ _ _ r h => by simp [tmplpiperef11_Format.j0] at h, fun _ _ _ _ _ _ r h => by simp [tmplpiperef11_Format.j1] at h⟩
  | k + 1 => by
    obtain ⟨ih0, ih1⟩ := tmplpiperef11_Format.mono_l k
    refine ⟨?_, ?_⟩
    · intro y0 y1 y2 y3 y4 y5 y6
      unfold tmplpiperef11_Format.j0
      repeat' first
      | (with_reducible exact ih0 _ _ _ _ _ _ _)
      | (with_reducible exact ih1 _ _ _ _ _ _)
      | (with_reducible exact LeO.refl _)
      | (with_reducible exact LeO.none _)
      | (with_reducible refine LeO.ite ?_ ?_)
      | (with_reducible refine LeO.bind ?_ (fun _ => ?_))
      | exact ih0 _ _ _ _ _ _ _
      | exact ih1 _ _ _ _ _ _
      | exact LeO.none _
      | refine LeO.ite ?_ ?_
      | refine LeO.bind ?_ (fun _ => ?_)
    · intro y0 y1 y2 y3 y4 y5
      unfold tmplpiperef11_Format.j1
      repeat' first
      | (with_reducible exact ih0 _ _ _ _ _ _ _)
      | (with_reducible exact ih1 _ _ _ _ _ _)
      | (with_reducible exact LeO.refl _)
      | (with_reducible exact LeO.none _)
      | (with_reducible refine LeO.ite ?_ ?_)
      | (with_reducible refine LeO.bind ?_ (fun _ => ?_))
      | exact ih0 _ _ _ _ _ _ _
      | exact ih1 _ _ _ _ _ _
      | exact LeO.none _
      | refine LeO.ite ?_ ?_
      | refine LeO.bind ?_ (fun _ => ?_)
theorem tmplpiperef11_Format.mono : ∀ a0 a1 a2 a3 a4 k, LeO (tmplpiperef11_Format.f k a0 a1 a2 a3 a4) (tmplpiperef11_Format.f (k + 1) a0 a1 a2 a3 a4) := by
  intro a0 a1 a2 a3 a4 k
  obtain ⟨ih0, ih1⟩ := tmplpiperef11_Format.mono_l k
  unfold tmplpiperef11_Format.f
  repeat' first
      | (with_reducible exact ih0 _ _ _ _ _ _ _)
      | (with_reducible exact ih1 _ _ _ _ _ _)
      | (with_reducible exact LeO.refl _)
      | (with_reducible exact LeO.none _)
      | (with_reducible refine LeO.ite ?_ ?_)
      | (with_reducible refine LeO.bind ?_ (fun _ => ?_))
      | exact ih0 _ _ _ _ _ _ _
      | exact ih1 _ _ _ _ _ _
      | exact LeO.none _
      | refine LeO.ite ?_ ?_
      | refine LeO.bind ?_ (fun _ => ?_)
set_option maxHeartbeats 8000000 in
set_option maxRecDepth 100000 in
theorem tmplpiperef11_Format.calls (k : Nat) (a0_0 : Int) (a0_1 : Int) (a0_2 : ByteArray) (a0_3 : ByteArray) (a0_4 : Bool) (r : ByteArray) (w : World) (h : tmplpiperef11_Format.f k a0_0 a0_1 a0_2 a0_3 a0_4 = some r) :
    Calls Tryd.prog 26 #[.agg #[.int .i64 a0_0, .int .i64 a0_1, .string a0_2, .string a0_3, .bool a0_4]] w fun e w' => e = .returned (.string r) ∧ Below w.heap.size w w' := by
  have hu47 := Tryd.underlying47
  have HB := Aside0.mk (Below.refl w.heap.size w)
  have H : (if a0_0 = 0 then (some a0_2) else ((some (([(⟨#[]⟩ : ByteArray), (⟨#[]⟩ : ByteArray), (⟨#[105, 102]⟩ : ByteArray), (⟨#[114, 97, 110, 103, 101]⟩ : ByteArray), (⟨#[99, 97, 108, 108]⟩ : ByteArray), (⟨#[102, 108, 117, 115, 104]⟩ : ByteArray), (⟨#[100, 101, 102, 105, 110, 101]⟩ : ByteArray), (⟨#[101, 108, 115, 101]⟩ : ByteArray), (⟨#[101, 110, 100]⟩ : ByteArray)] : List ByteArray) : List ByteArray)).bind fun y185 => (if 0 ≤ a0_0 then (if a0_0 < (y185.length : Int) then (if a0_0 = 4 then (tmplpiperef11_Format.j0 k (rdOf ByteArray.empty y185 a0_0) true a0_0 a0_1 a0_2 a0_3 a0_4) else (tmplpiperef11_Format.j0 k (rdOf ByteArray.empty y185 a0_0) (a0_0 == 6) a0_0 a0_1 a0_2 a0_3 a0_4)) else (none)) else (none)))) = some r := h
  clear h
  by_cases c2 : a0_0 = 0
  · rw [if_pos c2] at H
    have c2b0 : (a0_0 == 0) = true := beq_iff_eq.mpr c2
    have c2b1 : (a0_0 != 0) = false := bne_eq_false_iff_eq.mpr c2
    clear c2
    obtain rfl := Option.some.inj H
    go_enter Tryd.func26, Tryd.ntmps26
    go_wp2_with (first | ((with_reducible refine gate_dst (N := 1) rfl ?_); refine box_event ?hg (N := 1) ?hd (cs := #[.int .i64 a0_0, .int .i64 a0_1, .string a0_2, .string a0_3, .bool a0_4]) (t := 47) ?hr ?_; (case hd => rfl); (case hg => rfl); (case hr => first | (go_simp; done) | (go_simp; rfl)); intro gb184 hg w3 hbox hb; have n0_ := Aside0.mk (below_step (by repeat (first | (with_reducible first | exact HB.out | apply below_alloc | apply pw_below_drewN | apply below_drew1) | exact HB.out)) hb); have n1_ := Aside0.mk (hbox); have n2_ := Aside0.mk ((by rw [hg]; exact (below_size (by repeat (first | (with_reducible first | exact HB.out | apply below_alloc | apply pw_below_drewN | apply below_drew1) | exact HB.out))) : w.heap.size ≤ gb184)); have n3_ := Aside0.mk ((by rw [hg]; exact (below_size (by repeat (first | (with_reducible first | exact HB.out | apply below_alloc | apply pw_below_drewN | apply below_drew1) | exact HB.out))) : w.heap.size ≤ gb184)); clear HB; have HB := n0_; have BK184 := n1_; have GW184 := n2_; have GE184 := n3_; clear n0_ n1_ n2_ n3_; clear hb hbox hg; have hcz4_0 : w3.cell? ⟨gb184, 0, none⟩ = some (.int .i64 a0_0) := (blk_cell BK184.out 0).trans rfl; have hcz4_1 : w3.cell? ⟨gb184, 1, none⟩ = some (.int .i64 a0_1) := (blk_cell BK184.out 1).trans rfl; have hcz4_2 : w3.cell? ⟨gb184, 2, none⟩ = some (.string a0_2) := (blk_cell BK184.out 2).trans rfl; have hcz4_3 : w3.cell? ⟨gb184, 3, none⟩ = some (.string a0_3) := (blk_cell BK184.out 3).trans rfl; have hcz4_4 : w3.cell? ⟨gb184, 4, none⟩ = some (.bool a0_4) := (blk_cell BK184.out 4).trans rfl; have hfz4_0 := blk_frozen BK184.out 0; have hfz4_1 := blk_frozen BK184.out 1; have hfz4_2 := blk_frozen BK184.out 2; have hfz4_3 := blk_frozen BK184.out 3; have hfz4_4 := blk_frozen BK184.out 4))
    go_ret
    exact ⟨by first | rfl | (simp [errW_none, errW_some] <;> rfl) | (simp [*, errW_none, errW_some] <;> rfl), by repeat (first | (with_reducible first | exact HB.out | apply below_alloc | apply pw_below_drewN | apply below_drew1 | refine below_set ?_ GE184.out) | exact HB.out)⟩
  · rw [if_neg c2] at H
    have c2b0 : (a0_0 == 0) = false := beq_eq_false_iff_ne.mpr c2
    have c2b1 : (a0_0 != 0) = true := bne_iff_ne.mpr c2
    obtain ⟨y185, hy185⟩ : ∃ y_ : List ByteArray, y_ = (([(⟨#[]⟩ : ByteArray), (⟨#[]⟩ : ByteArray), (⟨#[105, 102]⟩ : ByteArray), (⟨#[114, 97, 110, 103, 101]⟩ : ByteArray), (⟨#[99, 97, 108, 108]⟩ : ByteArray), (⟨#[102, 108, 117, 115, 104]⟩ : ByteArray), (⟨#[100, 101, 102, 105, 110, 101]⟩ : ByteArray), (⟨#[101, 108, 115, 101]⟩ : ByteArray), (⟨#[101, 110, 100]⟩ : ByteArray)] : List ByteArray)) := ⟨_, rfl⟩
    replace H : (if 0 ≤ a0_0 then (if a0_0 < (y185.length : Int) then (if a0_0 = 4 then (tmplpiperef11_Format.j0 k (rdOf ByteArray.empty y185 a0_0) true a0_0 a0_1 a0_2 a0_3 a0_4) else (tmplpiperef11_Format.j0 k (rdOf ByteArray.empty y185 a0_0) (a0_0 == 6) a0_0 a0_1 a0_2 a0_3 a0_4)) else (none)) else (none)) = some r := by first | (rw [hy185]; with_reducible exact H) | (have H2_ := (Option.bind_some _ _).symm.trans H; rw [hy185]; with_reducible exact H2_) | (have H2_ := (Option.bind_some _ _).symm.trans H; with_reducible exact H2_) | with_reducible exact H | (rw [hy185]; exact H) | exact H
    have Ny185 := Aside0.mk hy185
    clear hy185
    by_cases c5 : 0 ≤ a0_0
    · rw [if_pos c5] at H
      have c5b0 : decide (0 ≤ a0_0) = true := decide_eq_true c5
      clear c5
      by_cases c6 : a0_0 < (y185.length : Int)
      · rw [if_pos c6] at H
        have c6b0 : decide (a0_0 < (y185.length : Int)) = true := decide_eq_true c6
        clear c6
        have HC7 := Aside0.mk H
        clear H
        go_enter Tryd.func26, Tryd.ntmps26
        go_upto_region 4 with (first | ((with_reducible refine gate_dst (N := 1) rfl ?_); refine box_event ?hg (N := 1) ?hd (cs := #[.int .i64 a0_0, .int .i64 a0_1, .string a0_2, .string a0_3, .bool a0_4]) (t := 47) ?hr ?_; (case hd => rfl); (case hg => rfl); (case hr => first | (go_simp; done) | (go_simp; rfl)); intro gb184 hg w8 hbox hb; have n0_ := Aside0.mk (below_step (by repeat (first | (with_reducible first | exact HB.out | apply below_alloc | apply pw_below_drewN | apply below_drew1) | exact HB.out)) hb); have n1_ := Aside0.mk (hbox); have n2_ := Aside0.mk ((by rw [hg]; exact (below_size (by repeat (first | (with_reducible first | exact HB.out | apply below_alloc | apply pw_below_drewN | apply below_drew1) | exact HB.out))) : w.heap.size ≤ gb184)); have n3_ := Aside0.mk ((by rw [hg]; exact (below_size (by repeat (first | (with_reducible first | exact HB.out | apply below_alloc | apply pw_below_drewN | apply below_drew1) | exact HB.out))) : w.heap.size ≤ gb184)); clear HB; have HB := n0_; have BK184 := n1_; have GW184 := n2_; have GE184 := n3_; clear n0_ n1_ n2_ n3_; clear hb hbox hg; have hcz9_0 : w8.cell? ⟨gb184, 0, none⟩ = some (.int .i64 a0_0) := (blk_cell BK184.out 0).trans rfl; have hcz9_1 : w8.cell? ⟨gb184, 1, none⟩ = some (.int .i64 a0_1) := (blk_cell BK184.out 1).trans rfl; have hcz9_2 : w8.cell? ⟨gb184, 2, none⟩ = some (.string a0_2) := (blk_cell BK184.out 2).trans rfl; have hcz9_3 : w8.cell? ⟨gb184, 3, none⟩ = some (.string a0_3) := (blk_cell BK184.out 3).trans rfl; have hcz9_4 : w8.cell? ⟨gb184, 4, none⟩ = some (.bool a0_4) := (blk_cell BK184.out 4).trans rfl; have hfz9_0 := blk_frozen BK184.out 0; have hfz9_1 := blk_frozen BK184.out 1; have hfz9_2 := blk_frozen BK184.out 2; have hfz9_3 := blk_frozen BK184.out 3; have hfz9_4 := blk_frozen BK184.out 4) | ((with_reducible refine gate_dst (N := 9) rfl ?_); refine Kd.R_lit Kd.string _ 9 ?hg (N := 9) ?hd (xs := ([(⟨#[]⟩ : ByteArray), (⟨#[]⟩ : ByteArray), (⟨#[105, 102]⟩ : ByteArray), (⟨#[114, 97, 110, 103, 101]⟩ : ByteArray), (⟨#[99, 97, 108, 108]⟩ : ByteArray), (⟨#[102, 108, 117, 115, 104]⟩ : ByteArray), (⟨#[100, 101, 102, 105, 110, 101]⟩ : ByteArray), (⟨#[101, 108, 115, 101]⟩ : ByteArray), (⟨#[101, 110, 100]⟩ : ByteArray)] : List ByteArray)) (inner := [.string (⟨#[]⟩ : ByteArray), .string (⟨#[]⟩ : ByteArray), .string (⟨#[105, 102]⟩ : ByteArray), .string (⟨#[114, 97, 110, 103, 101]⟩ : ByteArray), .string (⟨#[99, 97, 108, 108]⟩ : ByteArray), .string (⟨#[102, 108, 117, 115, 104]⟩ : ByteArray), .string (⟨#[100, 101, 102, 105, 110, 101]⟩ : ByteArray), .string (⟨#[101, 108, 115, 101]⟩ : ByteArray), .string (⟨#[101, 110, 100]⟩ : ByteArray)]) (ok := fun _ => True) (okp := fun _ => True) ?hr ?hp (fun _ hk => hk) trivial (Below.refl _ _) (Nat.le_refl _) (by simp) ?_; (case hd => rfl); (case hg => rfl); (case hr => first | (go_simp; done) | (go_simp; rfl)); (case hp => exact (Reps.one (show Kd.M Kd.string _ _ _ (⟨#[]⟩ : ByteArray) [.string (⟨#[]⟩ : ByteArray)] from rfl) (Reps.one (show Kd.M Kd.string _ _ _ (⟨#[]⟩ : ByteArray) [.string (⟨#[]⟩ : ByteArray)] from rfl) (Reps.one (show Kd.M Kd.string _ _ _ (⟨#[105, 102]⟩ : ByteArray) [.string (⟨#[105, 102]⟩ : ByteArray)] from rfl) (Reps.one (show Kd.M Kd.string _ _ _ (⟨#[114, 97, 110, 103, 101]⟩ : ByteArray) [.string (⟨#[114, 97, 110, 103, 101]⟩ : ByteArray)] from rfl) (Reps.one (show Kd.M Kd.string _ _ _ (⟨#[99, 97, 108, 108]⟩ : ByteArray) [.string (⟨#[99, 97, 108, 108]⟩ : ByteArray)] from rfl) (Reps.one (show Kd.M Kd.string _ _ _ (⟨#[102, 108, 117, 115, 104]⟩ : ByteArray) [.string (⟨#[102, 108, 117, 115, 104]⟩ : ByteArray)] from rfl) (Reps.one (show Kd.M Kd.string _ _ _ (⟨#[100, 101, 102, 105, 110, 101]⟩ : ByteArray) [.string (⟨#[100, 101, 102, 105, 110, 101]⟩ : ByteArray)] from rfl) (Reps.one (show Kd.M Kd.string _ _ _ (⟨#[101, 108, 115, 101]⟩ : ByteArray) [.string (⟨#[101, 108, 115, 101]⟩ : ByteArray)] from rfl) (Reps.one (show Kd.M Kd.string _ _ _ (⟨#[101, 110, 100]⟩ : ByteArray) [.string (⟨#[101, 110, 100]⟩ : ByteArray)] from rfl) (Reps.none _ _))))))))))); intro v186 w10 ho11 hb hg_ hnew_; clear hg_ hnew_; (first | rw [← Ny185.out] at ho11 | (simp only [Int.reduceToNat] at ho11; rw [← Ny185.out] at ho11)); have n0_ := Aside0.mk (Kd.R_lower ho11 (below_size (by repeat (first | (with_reducible first | exact HB.out | apply below_alloc | apply pw_below_drewN | apply below_drew1 | refine below_set ?_ GE184.out) | exact HB.out)))); have n1_ := Aside0.mk (blk_below (g := gb184) (o := .cells #[.int .i64 a0_0, .int .i64 a0_1, .string a0_2, .string a0_3, .bool a0_4] 47 (0, 0)) (by (with_reducible repeat (first | refine blk_drewN ?_ _ | refine blk_drew ?_ | refine blk_alloc ?_ _)); exact BK184.out) hb); have n2_ := Aside0.mk (below_step (by repeat (first | (with_reducible first | exact HB.out | apply below_alloc | apply pw_below_drewN | apply below_drew1 | refine below_set ?_ GE184.out) | exact HB.out)) hb); clear BK184; clear HB; have HO187 := n0_; have BK184 := n1_; have HB := n2_; clear n0_ n1_ n2_; clear hb ho11; have hcz12_0 : w10.cell? ⟨gb184, 0, none⟩ = some (.int .i64 a0_0) := (blk_cell BK184.out 0).trans rfl; have hcz12_1 : w10.cell? ⟨gb184, 1, none⟩ = some (.int .i64 a0_1) := (blk_cell BK184.out 1).trans rfl; have hcz12_2 : w10.cell? ⟨gb184, 2, none⟩ = some (.string a0_2) := (blk_cell BK184.out 2).trans rfl; have hcz12_3 : w10.cell? ⟨gb184, 3, none⟩ = some (.string a0_3) := (blk_cell BK184.out 3).trans rfl; have hcz12_4 : w10.cell? ⟨gb184, 4, none⟩ = some (.bool a0_4) := (blk_cell BK184.out 4).trans rfl; have hfz12_0 := blk_frozen BK184.out 0; have hfz12_1 := blk_frozen BK184.out 1; have hfz12_2 := blk_frozen BK184.out 2; have hfz12_3 := blk_frozen BK184.out 3; have hfz12_4 := blk_frozen BK184.out 4; obtain ⟨Ao13, co13, eo13⟩ := Kd.R_slice HO187.out; subst eo13; have p188 : 0 ≤ (a0_0 : Int) := of_decide_eq_true (by first | (with_reducible assumption) | assumption); have q188 : a0_0 < (y185.length : Int) := of_decide_eq_true (by first | (with_reducible assumption) | assumption); obtain ⟨ad188, e188, hx188_0⟩ := Kd.at_string (Kd.R_reads' HO187.out).2.2 a0_0 p188 q188; cases e188; replace p188 := eq_true p188; replace q188 := eq_true q188))
        (try simp only [Act.put, List.setIfInBounds_toArray, List.set_cons_zero, List.set_cons_succ])
        go_cut [21] (fun v21 wc => ∃ (kq : Nat) (x21_6 : Bool), v21 = .bool x21_6 ∧ Aside0 (tmplpiperef11_Format.j0 kq (rdOf ByteArray.empty y185 a0_0) x21_6 a0_0 a0_1 a0_2 a0_3 a0_4 = some r) ∧ Aside0 (kq ≤ k) ∧ Aside0 (wc.heap[gb184]? = some (.cells #[.int .i64 a0_0, .int .i64 a0_1, .string a0_2, .string a0_3, .bool a0_4] 47 (0, 0))) ∧ Aside0 (Below w.heap.size w wc))
        case first =>
          have H := HC7.out
          clear HC7
          by_cases c14 : a0_0 = 4
          · rw [if_pos c14] at H
            have c14b0 : (a0_0 == 4) = true := beq_iff_eq.mpr c14
            have c14b1 : (a0_0 != 4) = false := bne_eq_false_iff_eq.mpr c14
            clear c14
            (first | rw [c14b0] | (simp only [i64_w, i32_w]; rw [c14b0]) | skip)
            have H' := Aside0.mk H
            clear H
            have hcz15_0 : w10.cell? ⟨gb184, 0, none⟩ = some (.int .i64 a0_0) := (blk_cell BK184.out 0).trans rfl
            have hcz15_1 : w10.cell? ⟨gb184, 1, none⟩ = some (.int .i64 a0_1) := (blk_cell BK184.out 1).trans rfl
            have hcz15_2 : w10.cell? ⟨gb184, 2, none⟩ = some (.string a0_2) := (blk_cell BK184.out 2).trans rfl
            have hcz15_3 : w10.cell? ⟨gb184, 3, none⟩ = some (.string a0_3) := (blk_cell BK184.out 3).trans rfl
            have hcz15_4 : w10.cell? ⟨gb184, 4, none⟩ = some (.bool a0_4) := (blk_cell BK184.out 4).trans rfl
            have hfz15_0 := blk_frozen BK184.out 0
            have hfz15_1 := blk_frozen BK184.out 1
            have hfz15_2 := blk_frozen BK184.out 2
            have hfz15_3 := blk_frozen BK184.out 3
            have hfz15_4 := blk_frozen BK184.out 4
            go_wp2
            go_meet
            case rel => exact ⟨_, (true), (by first | rfl | (simp; done) | (simp [*]; done)), H', ⟨by first | omega | exact Nat.le_refl _⟩, ⟨by (with_reducible repeat (first | refine blk_drewN ?_ _ | refine blk_drew ?_ | refine blk_alloc ?_ _)); exact BK184.out⟩, ⟨by repeat (first | (with_reducible first | exact HB.out | apply below_alloc | apply pw_below_drewN | apply below_drew1 | refine below_set ?_ GE184.out) | exact HB.out)⟩⟩
          · rw [if_neg c14] at H
            have c14b0 : (a0_0 == 4) = false := beq_eq_false_iff_ne.mpr c14
            have c14b1 : (a0_0 != 4) = true := bne_iff_ne.mpr c14
            (first | rw [c14b0] | (simp only [i64_w, i32_w]; rw [c14b0]) | skip)
            have H' := Aside0.mk H
            clear H
            have hcz16_0 : w10.cell? ⟨gb184, 0, none⟩ = some (.int .i64 a0_0) := (blk_cell BK184.out 0).trans rfl
            have hcz16_1 : w10.cell? ⟨gb184, 1, none⟩ = some (.int .i64 a0_1) := (blk_cell BK184.out 1).trans rfl
            have hcz16_2 : w10.cell? ⟨gb184, 2, none⟩ = some (.string a0_2) := (blk_cell BK184.out 2).trans rfl
            have hcz16_3 : w10.cell? ⟨gb184, 3, none⟩ = some (.string a0_3) := (blk_cell BK184.out 3).trans rfl
            have hcz16_4 : w10.cell? ⟨gb184, 4, none⟩ = some (.bool a0_4) := (blk_cell BK184.out 4).trans rfl
            have hfz16_0 := blk_frozen BK184.out 0
            have hfz16_1 := blk_frozen BK184.out 1
            have hfz16_2 := blk_frozen BK184.out 2
            have hfz16_3 := blk_frozen BK184.out 3
            have hfz16_4 := blk_frozen BK184.out 4
            go_wp2
            go_meet
            case rel => exact ⟨_, ((a0_0 == 6)), (by first | rfl | (simp; done) | (simp [*]; done)), H', ⟨by first | omega | exact Nat.le_refl _⟩, ⟨by (with_reducible repeat (first | refine blk_drewN ?_ _ | refine blk_drew ?_ | refine blk_alloc ?_ _)); exact BK184.out⟩, ⟨by repeat (first | (with_reducible first | exact HB.out | apply below_alloc | apply pw_below_drewN | apply below_drew1 | refine below_set ?_ GE184.out) | exact HB.out)⟩⟩
        case rest =>
          clear HC7
          try clear c1
          try clear p1
          try clear q1
          try clear hx1
          try clear c2
          try clear c2b0
          try clear c2b1
          try clear p2
          try clear c5
          try clear c5b0
          try clear c6
          try clear c6b0
          try clear c14
          try clear c14b0
          try clear c14b1
          try clear hcz12_0
          try clear hcz12_1
          try clear hcz12_2
          try clear hcz12_3
          try clear hcz12_4
          try clear hcz15_0
          try clear hcz15_1
          try clear hcz15_2
          try clear hcz15_3
          try clear hcz15_4
          try clear hcz16_0
          try clear hcz16_1
          try clear hcz16_2
          try clear hcz16_3
          try clear hcz16_4
          try clear hcz4_0
          try clear hcz4_1
          try clear hcz4_2
          try clear hcz4_3
          try clear hcz4_4
          try clear hcz9_0
          try clear hcz9_1
          try clear hcz9_2
          try clear hcz9_3
          try clear hcz9_4
          try clear hfz12_0
          try clear hfz12_1
          try clear hfz12_2
          try clear hfz12_3
          try clear hfz12_4
          try clear hfz15_0
          try clear hfz15_1
          try clear hfz15_2
          try clear hfz15_3
          try clear hfz15_4
          try clear hfz16_0
          try clear hfz16_1
          try clear hfz16_2
          try clear hfz16_3
          try clear hfz16_4
          try clear hfz4_0
          try clear hfz4_1
          try clear hfz4_2
          try clear hfz4_3
          try clear hfz4_4
          try clear hfz9_0
          try clear hfz9_1
          try clear hfz9_2
          try clear hfz9_3
          try clear hfz9_4
          try clear hx188_0
          try clear p188
          try clear q188
          obtain ⟨kq, x21_6, rfl, HA, HJ6, BK184, HB⟩ := hcut
          cases kq with
          | zero => exact absurd HA.out (by simp [tmplpiperef11_Format.j0])
          | succ kj6 =>
            have H := HA.out
            clear HA
            simp only [tmplpiperef11_Format.j0] at H
            have HC17 := Aside0.mk H
            clear H
            go_upto_if 21 with (fail)
            go_cut [3] (fun v3 wc => ∃ (kq : Nat) (x3_16 : ByteArray), v3 = .string x3_16 ∧ Aside0 (tmplpiperef11_Format.j1 kq x3_16 a0_0 a0_1 a0_2 a0_3 a0_4 = some r) ∧ Aside0 (kq ≤ kj6) ∧ Aside0 (wc.heap[gb184]? = some (.cells #[.int .i64 a0_0, .int .i64 a0_1, .string a0_2, .string a0_3, .bool a0_4] 47 (0, 0))) ∧ Aside0 (Below w.heap.size w wc))
            case first =>
              have H := HC17.out
              clear HC17
              by_cases c18 : x21_6 = true
              · subst c18
                have H1 : (if (rdOf ByteArray.empty y185 a0_0).size + 1 ≤ 9223372036854775807 then (if ((rdOf ByteArray.empty y185 a0_0) ++ (⟨#[32]⟩ : ByteArray)).size + a0_2.size ≤ 9223372036854775807 then (tmplpiperef11_Format.j1 kj6 (((rdOf ByteArray.empty y185 a0_0) ++ (⟨#[32]⟩ : ByteArray)) ++ a0_2) a0_0 a0_1 a0_2 a0_3 a0_4) else (none)) else (none)) = some r := by rw [if_pos rfl] at H; exact H
                clear H
                have H := H1
                clear H1
                by_cases c19 : (rdOf ByteArray.empty y185 a0_0).size + 1 ≤ 9223372036854775807
                · rw [if_pos c19] at H
                  have c19b0 := eq_true c19
                  have c19b1 : decide ((rdOf ByteArray.empty y185 a0_0).size + 1 ≤ 9223372036854775807) = true := decide_eq_true c19
                  try have c19b2 : (9223372036854775807 < (rdOf ByteArray.empty y185 a0_0).size + 1) = False := eq_false (Nat.not_lt.2 c19)
                  by_cases c20 : ((rdOf ByteArray.empty y185 a0_0) ++ (⟨#[32]⟩ : ByteArray)).size + a0_2.size ≤ 9223372036854775807
                  · rw [if_pos c20] at H
                    have c20b0 := eq_true c20
                    have c20b1 : decide (((rdOf ByteArray.empty y185 a0_0) ++ (⟨#[32]⟩ : ByteArray)).size + a0_2.size ≤ 9223372036854775807) = true := decide_eq_true c20
                    try have c20b2 : (9223372036854775807 < ((rdOf ByteArray.empty y185 a0_0) ++ (⟨#[32]⟩ : ByteArray)).size + a0_2.size) = False := eq_false (Nat.not_lt.2 c20)
                    have H' := Aside0.mk H
                    clear H
                    have hcz21_0 : wc.cell? ⟨gb184, 0, none⟩ = some (.int .i64 a0_0) := (blk_cell BK184.out 0).trans rfl
                    have hcz21_1 : wc.cell? ⟨gb184, 1, none⟩ = some (.int .i64 a0_1) := (blk_cell BK184.out 1).trans rfl
                    have hcz21_2 : wc.cell? ⟨gb184, 2, none⟩ = some (.string a0_2) := (blk_cell BK184.out 2).trans rfl
                    have hcz21_3 : wc.cell? ⟨gb184, 3, none⟩ = some (.string a0_3) := (blk_cell BK184.out 3).trans rfl
                    have hcz21_4 : wc.cell? ⟨gb184, 4, none⟩ = some (.bool a0_4) := (blk_cell BK184.out 4).trans rfl
                    have hfz21_0 := blk_frozen BK184.out 0
                    have hfz21_1 := blk_frozen BK184.out 1
                    have hfz21_2 := blk_frozen BK184.out 2
                    have hfz21_3 := blk_frozen BK184.out 3
                    have hfz21_4 := blk_frozen BK184.out 4
                    go_wp2
                    go_meet
                    case rel => exact ⟨_, (((rdOf ByteArray.empty y185 a0_0) ++ (⟨#[32]⟩ : ByteArray)) ++ a0_2), (by first | rfl | (simp; done) | (simp [*]; done)), H', ⟨by have := HJ6.out; first | omega | exact Nat.le_refl _⟩, ⟨by (with_reducible repeat (first | refine blk_drewN ?_ _ | refine blk_drew ?_ | refine blk_alloc ?_ _)); exact BK184.out⟩, ⟨by repeat (first | (with_reducible first | exact HB.out | apply below_alloc | apply pw_below_drewN | apply below_drew1 | refine below_set ?_ GE184.out) | exact HB.out)⟩⟩
                  · rw [if_neg c20] at H
                    exact absurd H (by simp)
                · rw [if_neg c19] at H
                  exact absurd H (by simp)
              · replace c18 := Bool.eq_false_iff.mpr c18
                subst c18
                have H1 : (tmplpiperef11_Format.j1 kj6 (rdOf ByteArray.empty y185 a0_0) a0_0 a0_1 a0_2 a0_3 a0_4) = some r := by rw [if_neg (show ¬ (false = true) by decide)] at H; exact H
                clear H
                have H := H1
                clear H1
                have H' := Aside0.mk H
                clear H
                go_wp2
                go_meet
                case rel => exact ⟨_, ((rdOf ByteArray.empty y185 a0_0)), (by first | rfl | (simp; done) | (simp [*]; done)), H', ⟨by have := HJ6.out; first | omega | exact Nat.le_refl _⟩, ⟨by (with_reducible repeat (first | refine blk_drewN ?_ _ | refine blk_drew ?_ | refine blk_alloc ?_ _)); exact BK184.out⟩, ⟨by repeat (first | (with_reducible first | exact HB.out | apply below_alloc | apply pw_below_drewN | apply below_drew1 | refine below_set ?_ GE184.out) | exact HB.out)⟩⟩
            case rest =>
              clear HC17
              try clear c1
              try clear p1
              try clear q1
              try clear hx1
              try clear c2
              try clear c2b0
              try clear c2b1
              try clear p2
              try clear c5
              try clear c5b0
              try clear c6
              try clear c6b0
              try clear c14
              try clear c14b0
              try clear c14b1
              try clear c18
              try clear p18
              try clear q18
              try clear hx18
              try clear c19
              try clear c19b0
              try clear c19b1
              try clear c19b2
              try clear c20
              try clear c20b0
              try clear c20b1
              try clear c20b2
              try clear hcz12_0
              try clear hcz12_1
              try clear hcz12_2
              try clear hcz12_3
              try clear hcz12_4
              try clear hcz15_0
              try clear hcz15_1
              try clear hcz15_2
              try clear hcz15_3
              try clear hcz15_4
              try clear hcz16_0
              try clear hcz16_1
              try clear hcz16_2
              try clear hcz16_3
              try clear hcz16_4
              try clear hcz21_0
              try clear hcz21_1
              try clear hcz21_2
              try clear hcz21_3
              try clear hcz21_4
              try clear hcz4_0
              try clear hcz4_1
              try clear hcz4_2
              try clear hcz4_3
              try clear hcz4_4
              try clear hcz9_0
              try clear hcz9_1
              try clear hcz9_2
              try clear hcz9_3
              try clear hcz9_4
              try clear hfz12_0
              try clear hfz12_1
              try clear hfz12_2
              try clear hfz12_3
              try clear hfz12_4
              try clear hfz15_0
              try clear hfz15_1
              try clear hfz15_2
              try clear hfz15_3
              try clear hfz15_4
              try clear hfz16_0
              try clear hfz16_1
              try clear hfz16_2
              try clear hfz16_3
              try clear hfz16_4
              try clear hfz21_0
              try clear hfz21_1
              try clear hfz21_2
              try clear hfz21_3
              try clear hfz21_4
              try clear hfz4_0
              try clear hfz4_1
              try clear hfz4_2
              try clear hfz4_3
              try clear hfz4_4
              try clear hfz9_0
              try clear hfz9_1
              try clear hfz9_2
              try clear hfz9_3
              try clear hfz9_4
              try clear hx188_0
              try clear p1
              try clear p188
              try clear p2
              try clear q1
              try clear q188
              obtain ⟨kq, x3_16, rfl, HA, HJ16, BK184, HB⟩ := hcut
              cases kq with
              | zero => exact absurd HA.out (by simp [tmplpiperef11_Format.j1])
              | succ kj16 =>
                have H := HA.out
                clear HA
                simp only [tmplpiperef11_Format.j1] at H
                by_cases c22 : a0_4 = true
                · subst c22
                  have H1 : (if x3_16.toList = ([] : List UInt8) then (if x3_16.size + 1 ≤ 9223372036854775807 then (if (x3_16 ++ (⟨#[46]⟩ : ByteArray)).size + a0_3.size ≤ 9223372036854775807 then (if 2 + ((x3_16 ++ (⟨#[46]⟩ : ByteArray)) ++ a0_3).size ≤ 9223372036854775807 then (if ((⟨#[123, 123]⟩ : ByteArray) ++ ((x3_16 ++ (⟨#[46]⟩ : ByteArray)) ++ a0_3)).size + 2 ≤ 9223372036854775807 then (some (((⟨#[123, 123]⟩ : ByteArray) ++ ((x3_16 ++ (⟨#[46]⟩ : ByteArray)) ++ a0_3)) ++ (⟨#[125, 125]⟩ : ByteArray))) else (none)) else (none)) else (none)) else (none)) else (if x3_16.size + 1 ≤ 9223372036854775807 then (if (x3_16 ++ (⟨#[32]⟩ : ByteArray)).size + 1 ≤ 9223372036854775807 then (if ((x3_16 ++ (⟨#[32]⟩ : ByteArray)) ++ (⟨#[46]⟩ : ByteArray)).size + a0_3.size ≤ 9223372036854775807 then (if 2 + (((x3_16 ++ (⟨#[32]⟩ : ByteArray)) ++ (⟨#[46]⟩ : ByteArray)) ++ a0_3).size ≤ 9223372036854775807 then (if ((⟨#[123, 123]⟩ : ByteArray) ++ (((x3_16 ++ (⟨#[32]⟩ : ByteArray)) ++ (⟨#[46]⟩ : ByteArray)) ++ a0_3)).size + 2 ≤ 9223372036854775807 then (some (((⟨#[123, 123]⟩ : ByteArray) ++ (((x3_16 ++ (⟨#[32]⟩ : ByteArray)) ++ (⟨#[46]⟩ : ByteArray)) ++ a0_3)) ++ (⟨#[125, 125]⟩ : ByteArray))) else (none)) else (none)) else (none)) else (none)) else (none))) = some r := by rw [if_pos rfl] at H; exact H
                  clear H
                  have H := H1
                  clear H1
                  by_cases c23 : x3_16.toList = ([] : List UInt8)
                  · rw [if_pos c23] at H
                    have c23b0 : (x3_16.toList == ([] : List UInt8)) = true := beq_iff_eq.mpr c23
                    have c23b1 : (x3_16.toList != ([] : List UInt8)) = false := bne_eq_false_iff_eq.mpr c23
                    clear c23
                    by_cases c24 : x3_16.size + 1 ≤ 9223372036854775807
                    · rw [if_pos c24] at H
                      have c24b0 := eq_true c24
                      have c24b1 : decide (x3_16.size + 1 ≤ 9223372036854775807) = true := decide_eq_true c24
                      try have c24b2 : (9223372036854775807 < x3_16.size + 1) = False := eq_false (Nat.not_lt.2 c24)
                      by_cases c25 : (x3_16 ++ (⟨#[46]⟩ : ByteArray)).size + a0_3.size ≤ 9223372036854775807
                      · rw [if_pos c25] at H
                        have c25b0 := eq_true c25
                        have c25b1 : decide ((x3_16 ++ (⟨#[46]⟩ : ByteArray)).size + a0_3.size ≤ 9223372036854775807) = true := decide_eq_true c25
                        try have c25b2 : (9223372036854775807 < (x3_16 ++ (⟨#[46]⟩ : ByteArray)).size + a0_3.size) = False := eq_false (Nat.not_lt.2 c25)
                        by_cases c26 : 2 + ((x3_16 ++ (⟨#[46]⟩ : ByteArray)) ++ a0_3).size ≤ 9223372036854775807
                        · rw [if_pos c26] at H
                          have c26b0 := eq_true c26
                          have c26b1 : decide (2 + ((x3_16 ++ (⟨#[46]⟩ : ByteArray)) ++ a0_3).size ≤ 9223372036854775807) = true := decide_eq_true c26
                          try have c26b2 : (9223372036854775807 < 2 + ((x3_16 ++ (⟨#[46]⟩ : ByteArray)) ++ a0_3).size) = False := eq_false (Nat.not_lt.2 c26)
                          by_cases c27 : ((⟨#[123, 123]⟩ : ByteArray) ++ ((x3_16 ++ (⟨#[46]⟩ : ByteArray)) ++ a0_3)).size + 2 ≤ 9223372036854775807
                          · rw [if_pos c27] at H
                            have c27b0 := eq_true c27
                            have c27b1 : decide (((⟨#[123, 123]⟩ : ByteArray) ++ ((x3_16 ++ (⟨#[46]⟩ : ByteArray)) ++ a0_3)).size + 2 ≤ 9223372036854775807) = true := decide_eq_true c27
                            try have c27b2 : (9223372036854775807 < ((⟨#[123, 123]⟩ : ByteArray) ++ ((x3_16 ++ (⟨#[46]⟩ : ByteArray)) ++ a0_3)).size + 2) = False := eq_false (Nat.not_lt.2 c27)
                            obtain rfl := Option.some.inj H
                            have hcz28_0 : wc.cell? ⟨gb184, 0, none⟩ = some (.int .i64 a0_0) := (blk_cell BK184.out 0).trans rfl
                            have hcz28_1 : wc.cell? ⟨gb184, 1, none⟩ = some (.int .i64 a0_1) := (blk_cell BK184.out 1).trans rfl
                            have hcz28_2 : wc.cell? ⟨gb184, 2, none⟩ = some (.string a0_2) := (blk_cell BK184.out 2).trans rfl
                            have hcz28_3 : wc.cell? ⟨gb184, 3, none⟩ = some (.string a0_3) := (blk_cell BK184.out 3).trans rfl
                            have hcz28_4 : wc.cell? ⟨gb184, 4, none⟩ = some (.bool true) := (blk_cell BK184.out 4).trans rfl
                            have hfz28_0 := blk_frozen BK184.out 0
                            have hfz28_1 := blk_frozen BK184.out 1
                            have hfz28_2 := blk_frozen BK184.out 2
                            have hfz28_3 := blk_frozen BK184.out 3
                            have hfz28_4 := blk_frozen BK184.out 4
                            go_wp2
                            all_goals try (exfalso; (first | (have z_ := c27; simp only [ByteArray.size_append, show (⟨#[123, 123]⟩ : ByteArray).size = 2 from rfl, show (⟨#[46]⟩ : ByteArray).size = 1 from rfl, show (⟨#[32]⟩ : ByteArray).size = 1 from rfl, show (⟨#[123, 123, 101, 108, 115, 101, 125, 125]⟩ : ByteArray).size = 8 from rfl, show (⟨#[123, 123, 101, 110, 100, 125, 125]⟩ : ByteArray).size = 7 from rfl] at z_; omega) | (have z_ := c26; simp only [ByteArray.size_append, show (⟨#[123, 123]⟩ : ByteArray).size = 2 from rfl, show (⟨#[46]⟩ : ByteArray).size = 1 from rfl, show (⟨#[32]⟩ : ByteArray).size = 1 from rfl, show (⟨#[123, 123, 101, 108, 115, 101, 125, 125]⟩ : ByteArray).size = 8 from rfl, show (⟨#[123, 123, 101, 110, 100, 125, 125]⟩ : ByteArray).size = 7 from rfl] at z_; omega) | (have z_ := c25; simp only [ByteArray.size_append, show (⟨#[123, 123]⟩ : ByteArray).size = 2 from rfl, show (⟨#[46]⟩ : ByteArray).size = 1 from rfl, show (⟨#[32]⟩ : ByteArray).size = 1 from rfl, show (⟨#[123, 123, 101, 108, 115, 101, 125, 125]⟩ : ByteArray).size = 8 from rfl, show (⟨#[123, 123, 101, 110, 100, 125, 125]⟩ : ByteArray).size = 7 from rfl] at z_; omega) | (have z_ := c24; simp only [ByteArray.size_append, show (⟨#[123, 123]⟩ : ByteArray).size = 2 from rfl, show (⟨#[46]⟩ : ByteArray).size = 1 from rfl, show (⟨#[32]⟩ : ByteArray).size = 1 from rfl, show (⟨#[123, 123, 101, 108, 115, 101, 125, 125]⟩ : ByteArray).size = 8 from rfl, show (⟨#[123, 123, 101, 110, 100, 125, 125]⟩ : ByteArray).size = 7 from rfl] at z_; omega) | (have z_ := c20; simp only [ByteArray.size_append, show (⟨#[123, 123]⟩ : ByteArray).size = 2 from rfl, show (⟨#[46]⟩ : ByteArray).size = 1 from rfl, show (⟨#[32]⟩ : ByteArray).size = 1 from rfl, show (⟨#[123, 123, 101, 108, 115, 101, 125, 125]⟩ : ByteArray).size = 8 from rfl, show (⟨#[123, 123, 101, 110, 100, 125, 125]⟩ : ByteArray).size = 7 from rfl] at z_; omega) | (have z_ := c19; simp only [ByteArray.size_append, show (⟨#[123, 123]⟩ : ByteArray).size = 2 from rfl, show (⟨#[46]⟩ : ByteArray).size = 1 from rfl, show (⟨#[32]⟩ : ByteArray).size = 1 from rfl, show (⟨#[123, 123, 101, 108, 115, 101, 125, 125]⟩ : ByteArray).size = 8 from rfl, show (⟨#[123, 123, 101, 110, 100, 125, 125]⟩ : ByteArray).size = 7 from rfl] at z_; omega)))
                            go_ret
                            exact ⟨by first | rfl | (simp [errW_none, errW_some] <;> rfl) | (simp [*, errW_none, errW_some] <;> rfl), by repeat (first | (with_reducible first | exact HB.out | apply below_alloc | apply pw_below_drewN | apply below_drew1 | refine below_set ?_ GE184.out) | exact HB.out)⟩
                          · rw [if_neg c27] at H
                            exact absurd H (by simp)
                        · rw [if_neg c26] at H
                          exact absurd H (by simp)
                      · rw [if_neg c25] at H
                        exact absurd H (by simp)
                    · rw [if_neg c24] at H
                      exact absurd H (by simp)
                  · rw [if_neg c23] at H
                    have c23b0 : (x3_16.toList == ([] : List UInt8)) = false := beq_eq_false_iff_ne.mpr c23
                    have c23b1 : (x3_16.toList != ([] : List UInt8)) = true := bne_iff_ne.mpr c23
                    by_cases c29 : x3_16.size + 1 ≤ 9223372036854775807
                    · rw [if_pos c29] at H
                      have c29b0 := eq_true c29
                      have c29b1 : decide (x3_16.size + 1 ≤ 9223372036854775807) = true := decide_eq_true c29
                      try have c29b2 : (9223372036854775807 < x3_16.size + 1) = False := eq_false (Nat.not_lt.2 c29)
                      by_cases c30 : (x3_16 ++ (⟨#[32]⟩ : ByteArray)).size + 1 ≤ 9223372036854775807
                      · rw [if_pos c30] at H
                        have c30b0 := eq_true c30
                        have c30b1 : decide ((x3_16 ++ (⟨#[32]⟩ : ByteArray)).size + 1 ≤ 9223372036854775807) = true := decide_eq_true c30
                        try have c30b2 : (9223372036854775807 < (x3_16 ++ (⟨#[32]⟩ : ByteArray)).size + 1) = False := eq_false (Nat.not_lt.2 c30)
                        by_cases c31 : ((x3_16 ++ (⟨#[32]⟩ : ByteArray)) ++ (⟨#[46]⟩ : ByteArray)).size + a0_3.size ≤ 9223372036854775807
                        · rw [if_pos c31] at H
                          have c31b0 := eq_true c31
                          have c31b1 : decide (((x3_16 ++ (⟨#[32]⟩ : ByteArray)) ++ (⟨#[46]⟩ : ByteArray)).size + a0_3.size ≤ 9223372036854775807) = true := decide_eq_true c31
                          try have c31b2 : (9223372036854775807 < ((x3_16 ++ (⟨#[32]⟩ : ByteArray)) ++ (⟨#[46]⟩ : ByteArray)).size + a0_3.size) = False := eq_false (Nat.not_lt.2 c31)
                          by_cases c32 : 2 + (((x3_16 ++ (⟨#[32]⟩ : ByteArray)) ++ (⟨#[46]⟩ : ByteArray)) ++ a0_3).size ≤ 9223372036854775807
                          · rw [if_pos c32] at H
                            have c32b0 := eq_true c32
                            have c32b1 : decide (2 + (((x3_16 ++ (⟨#[32]⟩ : ByteArray)) ++ (⟨#[46]⟩ : ByteArray)) ++ a0_3).size ≤ 9223372036854775807) = true := decide_eq_true c32
                            try have c32b2 : (9223372036854775807 < 2 + (((x3_16 ++ (⟨#[32]⟩ : ByteArray)) ++ (⟨#[46]⟩ : ByteArray)) ++ a0_3).size) = False := eq_false (Nat.not_lt.2 c32)
                            by_cases c33 : ((⟨#[123, 123]⟩ : ByteArray) ++ (((x3_16 ++ (⟨#[32]⟩ : ByteArray)) ++ (⟨#[46]⟩ : ByteArray)) ++ a0_3)).size + 2 ≤ 9223372036854775807
                            · rw [if_pos c33] at H
                              have c33b0 := eq_true c33
                              have c33b1 : decide (((⟨#[123, 123]⟩ : ByteArray) ++ (((x3_16 ++ (⟨#[32]⟩ : ByteArray)) ++ (⟨#[46]⟩ : ByteArray)) ++ a0_3)).size + 2 ≤ 9223372036854775807) = true := decide_eq_true c33
                              try have c33b2 : (9223372036854775807 < ((⟨#[123, 123]⟩ : ByteArray) ++ (((x3_16 ++ (⟨#[32]⟩ : ByteArray)) ++ (⟨#[46]⟩ : ByteArray)) ++ a0_3)).size + 2) = False := eq_false (Nat.not_lt.2 c33)
                              obtain rfl := Option.some.inj H
                              have hcz34_0 : wc.cell? ⟨gb184, 0, none⟩ = some (.int .i64 a0_0) := (blk_cell BK184.out 0).trans rfl
                              have hcz34_1 : wc.cell? ⟨gb184, 1, none⟩ = some (.int .i64 a0_1) := (blk_cell BK184.out 1).trans rfl
                              have hcz34_2 : wc.cell? ⟨gb184, 2, none⟩ = some (.string a0_2) := (blk_cell BK184.out 2).trans rfl
                              have hcz34_3 : wc.cell? ⟨gb184, 3, none⟩ = some (.string a0_3) := (blk_cell BK184.out 3).trans rfl
                              have hcz34_4 : wc.cell? ⟨gb184, 4, none⟩ = some (.bool true) := (blk_cell BK184.out 4).trans rfl
                              have hfz34_0 := blk_frozen BK184.out 0
                              have hfz34_1 := blk_frozen BK184.out 1
                              have hfz34_2 := blk_frozen BK184.out 2
                              have hfz34_3 := blk_frozen BK184.out 3
                              have hfz34_4 := blk_frozen BK184.out 4
                              go_wp2
                              all_goals try (exfalso; (first | (have z_ := c33; simp only [ByteArray.size_append, show (⟨#[123, 123]⟩ : ByteArray).size = 2 from rfl, show (⟨#[46]⟩ : ByteArray).size = 1 from rfl, show (⟨#[32]⟩ : ByteArray).size = 1 from rfl, show (⟨#[123, 123, 101, 108, 115, 101, 125, 125]⟩ : ByteArray).size = 8 from rfl, show (⟨#[123, 123, 101, 110, 100, 125, 125]⟩ : ByteArray).size = 7 from rfl] at z_; omega) | (have z_ := c32; simp only [ByteArray.size_append, show (⟨#[123, 123]⟩ : ByteArray).size = 2 from rfl, show (⟨#[46]⟩ : ByteArray).size = 1 from rfl, show (⟨#[32]⟩ : ByteArray).size = 1 from rfl, show (⟨#[123, 123, 101, 108, 115, 101, 125, 125]⟩ : ByteArray).size = 8 from rfl, show (⟨#[123, 123, 101, 110, 100, 125, 125]⟩ : ByteArray).size = 7 from rfl] at z_; omega) | (have z_ := c31; simp only [ByteArray.size_append, show (⟨#[123, 123]⟩ : ByteArray).size = 2 from rfl, show (⟨#[46]⟩ : ByteArray).size = 1 from rfl, show (⟨#[32]⟩ : ByteArray).size = 1 from rfl, show (⟨#[123, 123, 101, 108, 115, 101, 125, 125]⟩ : ByteArray).size = 8 from rfl, show (⟨#[123, 123, 101, 110, 100, 125, 125]⟩ : ByteArray).size = 7 from rfl] at z_; omega) | (have z_ := c30; simp only [ByteArray.size_append, show (⟨#[123, 123]⟩ : ByteArray).size = 2 from rfl, show (⟨#[46]⟩ : ByteArray).size = 1 from rfl, show (⟨#[32]⟩ : ByteArray).size = 1 from rfl, show (⟨#[123, 123, 101, 108, 115, 101, 125, 125]⟩ : ByteArray).size = 8 from rfl, show (⟨#[123, 123, 101, 110, 100, 125, 125]⟩ : ByteArray).size = 7 from rfl] at z_; omega) | (have z_ := c29; simp only [ByteArray.size_append, show (⟨#[123, 123]⟩ : ByteArray).size = 2 from rfl, show (⟨#[46]⟩ : ByteArray).size = 1 from rfl, show (⟨#[32]⟩ : ByteArray).size = 1 from rfl, show (⟨#[123, 123, 101, 108, 115, 101, 125, 125]⟩ : ByteArray).size = 8 from rfl, show (⟨#[123, 123, 101, 110, 100, 125, 125]⟩ : ByteArray).size = 7 from rfl] at z_; omega) | (have z_ := c27; simp only [ByteArray.size_append, show (⟨#[123, 123]⟩ : ByteArray).size = 2 from rfl, show (⟨#[46]⟩ : ByteArray).size = 1 from rfl, show (⟨#[32]⟩ : ByteArray).size = 1 from rfl, show (⟨#[123, 123, 101, 108, 115, 101, 125, 125]⟩ : ByteArray).size = 8 from rfl, show (⟨#[123, 123, 101, 110, 100, 125, 125]⟩ : ByteArray).size = 7 from rfl] at z_; omega)))
                              go_ret
                              exact ⟨by first | rfl | (simp [errW_none, errW_some] <;> rfl) | (simp [*, errW_none, errW_some] <;> rfl), by repeat (first | (with_reducible first | exact HB.out | apply below_alloc | apply pw_below_drewN | apply below_drew1 | refine below_set ?_ GE184.out) | exact HB.out)⟩
                            · rw [if_neg c33] at H
                              exact absurd H (by simp)
                          · rw [if_neg c32] at H
                            exact absurd H (by simp)
                        · rw [if_neg c31] at H
                          exact absurd H (by simp)
                      · rw [if_neg c30] at H
                        exact absurd H (by simp)
                    · rw [if_neg c29] at H
                      exact absurd H (by simp)
                · replace c22 := Bool.eq_false_iff.mpr c22
                  subst c22
                  have H1 : (if 2 + x3_16.size ≤ 9223372036854775807 then (if ((⟨#[123, 123]⟩ : ByteArray) ++ x3_16).size + 2 ≤ 9223372036854775807 then (some (((⟨#[123, 123]⟩ : ByteArray) ++ x3_16) ++ (⟨#[125, 125]⟩ : ByteArray))) else (none)) else (none)) = some r := by rw [if_neg (show ¬ (false = true) by decide)] at H; exact H
                  clear H
                  have H := H1
                  clear H1
                  by_cases c35 : 2 + x3_16.size ≤ 9223372036854775807
                  · rw [if_pos c35] at H
                    have c35b0 := eq_true c35
                    have c35b1 : decide (2 + x3_16.size ≤ 9223372036854775807) = true := decide_eq_true c35
                    try have c35b2 : (9223372036854775807 < 2 + x3_16.size) = False := eq_false (Nat.not_lt.2 c35)
                    by_cases c36 : ((⟨#[123, 123]⟩ : ByteArray) ++ x3_16).size + 2 ≤ 9223372036854775807
                    · rw [if_pos c36] at H
                      have c36b0 := eq_true c36
                      have c36b1 : decide (((⟨#[123, 123]⟩ : ByteArray) ++ x3_16).size + 2 ≤ 9223372036854775807) = true := decide_eq_true c36
                      try have c36b2 : (9223372036854775807 < ((⟨#[123, 123]⟩ : ByteArray) ++ x3_16).size + 2) = False := eq_false (Nat.not_lt.2 c36)
                      obtain rfl := Option.some.inj H
                      have hcz37_0 : wc.cell? ⟨gb184, 0, none⟩ = some (.int .i64 a0_0) := (blk_cell BK184.out 0).trans rfl
                      have hcz37_1 : wc.cell? ⟨gb184, 1, none⟩ = some (.int .i64 a0_1) := (blk_cell BK184.out 1).trans rfl
                      have hcz37_2 : wc.cell? ⟨gb184, 2, none⟩ = some (.string a0_2) := (blk_cell BK184.out 2).trans rfl
                      have hcz37_3 : wc.cell? ⟨gb184, 3, none⟩ = some (.string a0_3) := (blk_cell BK184.out 3).trans rfl
                      have hcz37_4 : wc.cell? ⟨gb184, 4, none⟩ = some (.bool false) := (blk_cell BK184.out 4).trans rfl
                      have hfz37_0 := blk_frozen BK184.out 0
                      have hfz37_1 := blk_frozen BK184.out 1
                      have hfz37_2 := blk_frozen BK184.out 2
                      have hfz37_3 := blk_frozen BK184.out 3
                      have hfz37_4 := blk_frozen BK184.out 4
                      go_wp2
                      all_goals try (exfalso; (first | (have z_ := c36; simp only [ByteArray.size_append, show (⟨#[123, 123]⟩ : ByteArray).size = 2 from rfl, show (⟨#[46]⟩ : ByteArray).size = 1 from rfl, show (⟨#[32]⟩ : ByteArray).size = 1 from rfl, show (⟨#[123, 123, 101, 108, 115, 101, 125, 125]⟩ : ByteArray).size = 8 from rfl, show (⟨#[123, 123, 101, 110, 100, 125, 125]⟩ : ByteArray).size = 7 from rfl] at z_; omega) | (have z_ := c35; simp only [ByteArray.size_append, show (⟨#[123, 123]⟩ : ByteArray).size = 2 from rfl, show (⟨#[46]⟩ : ByteArray).size = 1 from rfl, show (⟨#[32]⟩ : ByteArray).size = 1 from rfl, show (⟨#[123, 123, 101, 108, 115, 101, 125, 125]⟩ : ByteArray).size = 8 from rfl, show (⟨#[123, 123, 101, 110, 100, 125, 125]⟩ : ByteArray).size = 7 from rfl] at z_; omega) | (have z_ := c30; simp only [ByteArray.size_append, show (⟨#[123, 123]⟩ : ByteArray).size = 2 from rfl, show (⟨#[46]⟩ : ByteArray).size = 1 from rfl, show (⟨#[32]⟩ : ByteArray).size = 1 from rfl, show (⟨#[123, 123, 101, 108, 115, 101, 125, 125]⟩ : ByteArray).size = 8 from rfl, show (⟨#[123, 123, 101, 110, 100, 125, 125]⟩ : ByteArray).size = 7 from rfl] at z_; omega) | (have z_ := c29; simp only [ByteArray.size_append, show (⟨#[123, 123]⟩ : ByteArray).size = 2 from rfl, show (⟨#[46]⟩ : ByteArray).size = 1 from rfl, show (⟨#[32]⟩ : ByteArray).size = 1 from rfl, show (⟨#[123, 123, 101, 108, 115, 101, 125, 125]⟩ : ByteArray).size = 8 from rfl, show (⟨#[123, 123, 101, 110, 100, 125, 125]⟩ : ByteArray).size = 7 from rfl] at z_; omega) | (have z_ := c25; simp only [ByteArray.size_append, show (⟨#[123, 123]⟩ : ByteArray).size = 2 from rfl, show (⟨#[46]⟩ : ByteArray).size = 1 from rfl, show (⟨#[32]⟩ : ByteArray).size = 1 from rfl, show (⟨#[123, 123, 101, 108, 115, 101, 125, 125]⟩ : ByteArray).size = 8 from rfl, show (⟨#[123, 123, 101, 110, 100, 125, 125]⟩ : ByteArray).size = 7 from rfl] at z_; omega) | (have z_ := c24; simp only [ByteArray.size_append, show (⟨#[123, 123]⟩ : ByteArray).size = 2 from rfl, show (⟨#[46]⟩ : ByteArray).size = 1 from rfl, show (⟨#[32]⟩ : ByteArray).size = 1 from rfl, show (⟨#[123, 123, 101, 108, 115, 101, 125, 125]⟩ : ByteArray).size = 8 from rfl, show (⟨#[123, 123, 101, 110, 100, 125, 125]⟩ : ByteArray).size = 7 from rfl] at z_; omega)))
                      go_ret
                      exact ⟨by first | rfl | (simp [errW_none, errW_some] <;> rfl) | (simp [*, errW_none, errW_some] <;> rfl), by repeat (first | (with_reducible first | exact HB.out | apply below_alloc | apply pw_below_drewN | apply below_drew1 | refine below_set ?_ GE184.out) | exact HB.out)⟩
                    · rw [if_neg c36] at H
                      exact absurd H (by simp)
                  · rw [if_neg c35] at H
                    exact absurd H (by simp)
      · rw [if_neg c6] at H
        exact absurd H (by simp)
    · rw [if_neg c5] at H
      exact absurd H (by simp)

-- NOT PRINTED: function 8 (tmplpipelaw11_LexMatchesReference)

-- NOT PRINTED: function 44 (parse_must)

/-! ### parse_opens: function 85 -/
def parse_opens.f (a0 : Int) : Option (Bool) := if a0 = 2 then (some true) else (if a0 = 3 then (some true) else (some (a0 == 6)))
set_option maxHeartbeats 8000000 in
set_option maxRecDepth 100000 in
theorem parse_opens.calls (a0 : Int) (r : Bool) (w : World) (h : parse_opens.f a0 = some r) :
    Calls Tryd.prog 85 #[.int .i64 a0] w fun e w' => e = .returned (.bool r) ∧ Drawn0 w w' := by
  have H : (if a0 = 2 then (some true) else (if a0 = 3 then (some true) else (some (a0 == 6)))) = some r := h
  clear h
  by_cases c2 : a0 = 2
  · rw [if_pos c2] at H
    have c2b0 : (a0 == 2) = true := beq_iff_eq.mpr c2
    have c2b1 : (a0 != 2) = false := bne_eq_false_iff_eq.mpr c2
    clear c2
    obtain rfl := Option.some.inj H
    go_enter Tryd.func85, Tryd.ntmps85
    go_wp2
    go_ret
    exact ⟨by first | rfl | (simp; done) | (simp [*]; done), by repeat (first | exact Drawn0.refl _ | apply Drawn0.step)⟩
  · rw [if_neg c2] at H
    have c2b0 : (a0 == 2) = false := beq_eq_false_iff_ne.mpr c2
    have c2b1 : (a0 != 2) = true := bne_iff_ne.mpr c2
    by_cases c3 : a0 = 3
    · rw [if_pos c3] at H
      have c3b0 : (a0 == 3) = true := beq_iff_eq.mpr c3
      have c3b1 : (a0 != 3) = false := bne_eq_false_iff_eq.mpr c3
      clear c3
      obtain rfl := Option.some.inj H
      go_enter Tryd.func85, Tryd.ntmps85
      go_wp2
      go_ret
      exact ⟨by first | rfl | (simp; done) | (simp [*]; done), by repeat (first | exact Drawn0.refl _ | apply Drawn0.step)⟩
    · rw [if_neg c3] at H
      have c3b0 : (a0 == 3) = false := beq_eq_false_iff_ne.mpr c3
      have c3b1 : (a0 != 3) = true := bne_iff_ne.mpr c3
      obtain rfl := Option.some.inj H
      go_enter Tryd.func85, Tryd.ntmps85
      go_wp2
      go_ret
      exact ⟨by first | rfl | (simp; done) | (simp [*]; done), by repeat (first | exact Drawn0.refl _ | apply Drawn0.step)⟩

-- NOT PRINTED: function 43 (parse_parser_list)

-- NOT PRINTED: function 19 (parse_Parse)

-- NOT PRINTED: function 18 (tmplpipelaw12_alive)

/-! ### tmplpiperef12_block: function 53 -/
def tmplpiperef12_block.f (a0 : Int) : Option (Bool) := if a0 = 2 then (some true) else (if a0 = 3 then (some true) else (some (a0 == 6)))
set_option maxHeartbeats 8000000 in
set_option maxRecDepth 100000 in
theorem tmplpiperef12_block.calls (a0 : Int) (r : Bool) (w : World) (h : tmplpiperef12_block.f a0 = some r) :
    Calls Tryd.prog 53 #[.int .i64 a0] w fun e w' => e = .returned (.bool r) ∧ Drawn0 w w' := by
  have H : (if a0 = 2 then (some true) else (if a0 = 3 then (some true) else (some (a0 == 6)))) = some r := h
  clear h
  by_cases c2 : a0 = 2
  · rw [if_pos c2] at H
    have c2b0 : (a0 == 2) = true := beq_iff_eq.mpr c2
    have c2b1 : (a0 != 2) = false := bne_eq_false_iff_eq.mpr c2
    clear c2
    obtain rfl := Option.some.inj H
    go_enter Tryd.func53, Tryd.ntmps53
    go_wp2
    go_ret
    exact ⟨by first | rfl | (simp; done) | (simp [*]; done), by repeat (first | exact Drawn0.refl _ | apply Drawn0.step)⟩
  · rw [if_neg c2] at H
    have c2b0 : (a0 == 2) = false := beq_eq_false_iff_ne.mpr c2
    have c2b1 : (a0 != 2) = true := bne_iff_ne.mpr c2
    by_cases c3 : a0 = 3
    · rw [if_pos c3] at H
      have c3b0 : (a0 == 3) = true := beq_iff_eq.mpr c3
      have c3b1 : (a0 != 3) = false := bne_eq_false_iff_eq.mpr c3
      clear c3
      obtain rfl := Option.some.inj H
      go_enter Tryd.func53, Tryd.ntmps53
      go_wp2
      go_ret
      exact ⟨by first | rfl | (simp; done) | (simp [*]; done), by repeat (first | exact Drawn0.refl _ | apply Drawn0.step)⟩
    · rw [if_neg c3] at H
      have c3b0 : (a0 == 3) = false := beq_eq_false_iff_ne.mpr c3
      have c3b1 : (a0 != 3) = true := bne_iff_ne.mpr c3
      obtain rfl := Option.some.inj H
      go_enter Tryd.func53, Tryd.ntmps53
      go_wp2
      go_ret
      exact ⟨by first | rfl | (simp; done) | (simp [*]; done), by repeat (first | exact Drawn0.refl _ | apply Drawn0.step)⟩

-- NOT PRINTED: function 45 (tmplpiperef12_parser_list)

-- NOT PRINTED: function 20 (tmplpiperef12_Parse)

end Go.Proofs.YtgdpojleejdfaaaDoor.Px
