import Derived.Test.YtgdpojleejdfaaaDoorPAPx0
namespace Go.Proofs.YtgdpojleejdfaaaDoor.Px
open Go.RowKit Go.Proofs.YtgdpojleejdfaaaDoorW.PrintWords Go.Proofs.YtgdpojleejdfaaaDoorW.PrintLast Go.Proofs.YtgdpojleejdfaaaDoorW.PrintMore
attribute [local go_sem] max2_int min2_int max_two min_two max_three min_three max_four min_four   -- for this text's walks alone
set_option linter.unusedVariables false
set_option linter.unusedSimpArgs false
mutual
def tmplpiperef11_Format.j0 : Nat → ByteArray → Bool → Int → Int → ByteArray → ByteArray → Bool → Option (ByteArray)
  | 0, _, _, _, _, _, _, _ => none
  | k + 1, x3, x21, x185000, x185001, x185002, x185003, x185004 => if x21 = true then (if x3.size + 1 ≤ 9223372036854775807 then (if (x3 ++ (⟨#[32]⟩ : ByteArray)).size + x185002.size ≤ 9223372036854775807 then (tmplpiperef11_Format.j1 k ((x3 ++ (⟨#[32]⟩ : ByteArray)) ++ x185002) x185000 x185001 x185002 x185003 x185004) else (none)) else (none)) else (tmplpiperef11_Format.j1 k x3 x185000 x185001 x185002 x185003 x185004)
def tmplpiperef11_Format.j1 : Nat → ByteArray → Int → Int → ByteArray → ByteArray → Bool → Option (ByteArray)
  | 0, _, _, _, _, _, _ => none
  | k + 1, x3, x185000, x185001, x185002, x185003, x185004 => if x185004 = true then (if x3.toList = ([] : List UInt8) then (if x3.size + 1 ≤ 9223372036854775807 then (if (x3 ++ (⟨#[46]⟩ : ByteArray)).size + x185003.size ≤ 9223372036854775807 then (if 2 + ((x3 ++ (⟨#[46]⟩ : ByteArray)) ++ x185003).size ≤ 9223372036854775807 then (if ((⟨#[123, 123]⟩ : ByteArray) ++ ((x3 ++ (⟨#[46]⟩ : ByteArray)) ++ x185003)).size + 2 ≤ 9223372036854775807 then (some (((⟨#[123, 123]⟩ : ByteArray) ++ ((x3 ++ (⟨#[46]⟩ : ByteArray)) ++ x185003)) ++ (⟨#[125, 125]⟩ : ByteArray))) else (none)) else (none)) else (none)) else (none)) else (if x3.size + 1 ≤ 9223372036854775807 then (if (x3 ++ (⟨#[32]⟩ : ByteArray)).size + 1 ≤ 9223372036854775807 then (if ((x3 ++ (⟨#[32]⟩ : ByteArray)) ++ (⟨#[46]⟩ : ByteArray)).size + x185003.size ≤ 9223372036854775807 then (if 2 + (((x3 ++ (⟨#[32]⟩ : ByteArray)) ++ (⟨#[46]⟩ : ByteArray)) ++ x185003).size ≤ 9223372036854775807 then (if ((⟨#[123, 123]⟩ : ByteArray) ++ (((x3 ++ (⟨#[32]⟩ : ByteArray)) ++ (⟨#[46]⟩ : ByteArray)) ++ x185003)).size + 2 ≤ 9223372036854775807 then (some (((⟨#[123, 123]⟩ : ByteArray) ++ (((x3 ++ (⟨#[32]⟩ : ByteArray)) ++ (⟨#[46]⟩ : ByteArray)) ++ x185003)) ++ (⟨#[125, 125]⟩ : ByteArray))) else (none)) else (none)) else (none)) else (none)) else (none))) else (if 2 + x3.size ≤ 9223372036854775807 then (if ((⟨#[123, 123]⟩ : ByteArray) ++ x3).size + 2 ≤ 9223372036854775807 then (some (((⟨#[123, 123]⟩ : ByteArray) ++ x3) ++ (⟨#[125, 125]⟩ : ByteArray))) else (none)) else (none))
end
def tmplpiperef11_Format.f (k : Nat) (a0_0 : Int) (a0_1 : Int) (a0_2 : ByteArray) (a0_3 : ByteArray) (a0_4 : Bool) : Option (ByteArray) := if a0_0 = 0 then (some a0_2) else ((some (([(⟨#[]⟩ : ByteArray), (⟨#[]⟩ : ByteArray), (⟨#[105, 102]⟩ : ByteArray), (⟨#[114, 97, 110, 103, 101]⟩ : ByteArray), (⟨#[99, 97, 108, 108]⟩ : ByteArray), (⟨#[102, 108, 117, 115, 104]⟩ : ByteArray), (⟨#[100, 101, 102, 105, 110, 101]⟩ : ByteArray), (⟨#[101, 108, 115, 101]⟩ : ByteArray), (⟨#[101, 110, 100]⟩ : ByteArray)] : List ByteArray) : List ByteArray)).bind fun y185 => (if 0 ≤ a0_0 then (if a0_0 < (y185.length : Int) then (if a0_0 = 4 then (tmplpiperef11_Format.j0 k (rdOf ByteArray.empty y185 a0_0) true a0_0 a0_1 a0_2 a0_3 a0_4) else (tmplpiperef11_Format.j0 k (rdOf ByteArray.empty y185 a0_0) (a0_0 == 6) a0_0 a0_1 a0_2 a0_3 a0_4)) else (none)) else (none)))
theorem tmplpiperef11_Format.mono_l : ∀ k, (∀ y0 y1 y2 y3 y4 y5 y6, LeO (tmplpiperef11_Format.j0 k y0 y1 y2 y3 y4 y5 y6) (tmplpiperef11_Format.j0 (k + 1) y0 y1 y2 y3 y4 y5 y6)) ∧ (∀ y0 y1 y2 y3 y4 y5, LeO (tmplpiperef11_Format.j1 k y0 y1 y2 y3 y4 y5) (tmplpiperef11_Format.j1 (k + 1) y0 y1 y2 y3 y4 y5))
  | 0 => ⟨fun _ _ _ _ _ _ _ r h => by simp [tmplpiperef11_Format.j0] at h, fun _ _ _ _ _ _ r h => by simp [tmplpiperef11_Format.j1] at h⟩
  | k + 1 => by
    obtain ⟨ih0, ih1⟩ := tmplpiperef11_Format.mono_l k
    refine ⟨?_, ?_⟩
    · intro y0 y1 y2 y3 y4 y5 y6
      unfold tmplpiperef11_Format.j0
      repeat' first
      | (with_reducible exact ih0 _ _ _ _ _ _ _)
      | (with_reducible exact ih1 _ _ _ _ _ _)
      | (with_reducible exact LeO.refl _)
      | (with_reducible exact LeO.none _)
      | (with_reducible refine LeO.ite ?_ ?_)
      | (with_reducible refine LeO.bind ?_ (fun _ => ?_))
      | exact ih0 _ _ _ _ _ _ _
      | exact ih1 _ _ _ _ _ _
      | exact LeO.none _
      | refine LeO.ite ?_ ?_
      | refine LeO.bind ?_ (fun _ => ?_)
    · intro y0 y1 y2 y3 y4 y5
      unfold tmplpiperef11_Format.j1
      repeat' first
      | (with_reducible exact ih0 _ _ _ _ _ _ _)
      | (with_reducible exact ih1 _ _ _ _ _ _)
      | (with_reducible exact LeO.refl _)
      | (with_reducible exact LeO.none _)
      | (with_reducible refine LeO.ite ?_ ?_)
      | (with_reducible refine LeO.bind ?_ (fun _ => ?_))
      | exact ih0 _ _ _ _ _ _ _
      | exact ih1 _ _ _ _ _ _
      | exact LeO.none _
      | refine LeO.ite ?_ ?_
      | refine LeO.bind ?_ (fun _ => ?_)
theorem tmplpiperef11_Format.mono : ∀ a0 a1 a2 a3 a4 k, LeO (tmplpiperef11_Format.f k a0 a1 a2 a3 a4) (tmplpiperef11_Format.f (k + 1) a0 a1 a2 a3 a4) := by
  intro a0 a1 a2 a3 a4 k
  obtain ⟨ih0, ih1⟩ := tmplpiperef11_Format.mono_l k
  unfold tmplpiperef11_Format.f
  repeat' first
      | (with_reducible exact ih0 _ _ _ _ _ _ _)
      | (with_reducible exact ih1 _ _ _ _ _ _)
      | (with_reducible exact LeO.refl _)
      | (with_reducible exact LeO.none _)
      | (with_reducible refine LeO.ite ?_ ?_)
      | (with_reducible refine LeO.bind ?_ (fun _ => ?_))
      | exact ih0 _ _ _ _ _ _ _
      | exact ih1 _ _ _ _ _ _
      | exact LeO.none _
      | refine LeO.ite ?_ ?_
      | refine LeO.bind ?_ (fun _ => ?_)
def parse_opens.f (a0 : Int) : Option (Bool) := if a0 = 2 then (some true) else (if a0 = 3 then (some true) else (some (a0 == 6)))
set_option maxHeartbeats 8000000 in
set_option maxRecDepth 100000 in
theorem parse_opens.calls (a0 : Int) (r : Bool) (w : World) (h : parse_opens.f a0 = some r) :
    Calls Tryd.prog 85 #[.int .i64 a0] w fun e w' => e = .returned (.bool r) ∧ Drawn0 w w' := by
  have H : (if a0 = 2 then (some true) else (if a0 = 3 then (some true) else (some (a0 == 6)))) = some r := h
  clear h
  by_cases c2 : a0 = 2
  · rw [if_pos c2] at H
    have c2b0 : (a0 == 2) = true := beq_iff_eq.mpr c2
    have c2b1 : (a0 != 2) = false := bne_eq_false_iff_eq.mpr c2
    clear c2
    obtain rfl := Option.some.inj H
    go_enter Tryd.func85, Tryd.ntmps85
    go_wp2
    go_ret
    exact ⟨by first | rfl | (simp; done) | (simp [*]; done), by repeat (first | exact Drawn0.refl _ | apply Drawn0.step)⟩
  · rw [if_neg c2] at H
    have c2b0 : (a0 == 2) = false := beq_eq_false_iff_ne.mpr c2
    have c2b1 : (a0 != 2) = true := bne_iff_ne.mpr c2
    by_cases c3 : a0 = 3
    · rw [if_pos c3] at H
      have c3b0 : (a0 == 3) = true := beq_iff_eq.mpr c3
      have c3b1 : (a0 != 3) = false := bne_eq_false_iff_eq.mpr c3
      clear c3
      obtain rfl := Option.some.inj H
      go_enter Tryd.func85, Tryd.ntmps85
      go_wp2
      go_ret
      exact ⟨by first | rfl | (simp; done) | (simp [*]; done), by repeat (first | exact Drawn0.refl _ | apply Drawn0.step)⟩
    · rw [if_neg c3] at H
      have c3b0 : (a0 == 3) = false := beq_eq_false_iff_ne.mpr c3
      have c3b1 : (a0 != 3) = true := bne_iff_ne.mpr c3
      obtain rfl := Option.some.inj H
      go_enter Tryd.func85, Tryd.ntmps85
      go_wp2
      go_ret
      exact ⟨by first | rfl | (simp; done) | (simp [*]; done), by repeat (first | exact Drawn0.refl _ | apply Drawn0.step)⟩
def tmplpiperef12_block.f (a0 : Int) : Option (Bool) := if a0 = 2 then (some true) else (if a0 = 3 then (some true) else (some (a0 == 6)))
set_option maxHeartbeats 8000000 in
set_option maxRecDepth 100000 in
theorem tmplpiperef12_block.calls (a0 : Int) (r : Bool) (w : World) (h : tmplpiperef12_block.f a0 = some r) :
    Calls Tryd.prog 53 #[.int .i64 a0] w fun e w' => e = .returned (.bool r) ∧ Drawn0 w w' := by
  have H : (if a0 = 2 then (some true) else (if a0 = 3 then (some true) else (some (a0 == 6)))) = some r := h
  clear h
  by_cases c2 : a0 = 2
  · rw [if_pos c2] at H
    have c2b0 : (a0 == 2) = true := beq_iff_eq.mpr c2
    have c2b1 : (a0 != 2) = false := bne_eq_false_iff_eq.mpr c2
    clear c2
    obtain rfl := Option.some.inj H
    go_enter Tryd.func53, Tryd.ntmps53
    go_wp2
    go_ret
    exact ⟨by first | rfl | (simp; done) | (simp [*]; done), by repeat (first | exact Drawn0.refl _ | apply Drawn0.step)⟩
  · rw [if_neg c2] at H
    have c2b0 : (a0 == 2) = false := beq_eq_false_iff_ne.mpr c2
    have c2b1 : (a0 != 2) = true := bne_iff_ne.mpr c2
    by_cases c3 : a0 = 3
    · rw [if_pos c3] at H
      have c3b0 : (a0 == 3) = true := beq_iff_eq.mpr c3
      have c3b1 : (a0 != 3) = false := bne_eq_false_iff_eq.mpr c3
      clear c3
      obtain rfl := Option.some.inj H
      go_enter Tryd.func53, Tryd.ntmps53
      go_wp2
      go_ret
      exact ⟨by first | rfl | (simp; done) | (simp [*]; done), by repeat (first | exact Drawn0.refl _ | apply Drawn0.step)⟩
    · rw [if_neg c3] at H
      have c3b0 : (a0 == 3) = false := beq_eq_false_iff_ne.mpr c3
      have c3b1 : (a0 != 3) = true := bne_iff_ne.mpr c3
      obtain rfl := Option.some.inj H
      go_enter Tryd.func53, Tryd.ntmps53
      go_wp2
      go_ret
      exact ⟨by first | rfl | (simp; done) | (simp [*]; done), by repeat (first | exact Drawn0.refl _ | apply Drawn0.step)⟩
end Go.Proofs.YtgdpojleejdfaaaDoor.Px
