import Derived.Test.YtgdpojleejdfaaaDoorPOPx8
import Derived.Test.YtgdpojleejdfaaaDoorPOPx9
import Derived.Test.YtgdpojleejdfaaaDoorPOQa6
import Derived.Test.YtgdpojleejdfaaaDoorPOPx6
import Derived.Test.YtgdpojleejdfaaaDoorPOQa1
namespace Go.Proofs.YtgdpojleejdfaaaDoor.Px
open Go.RowKit Go.Proofs.YtgdpojleejdfaaaDoorW.PrintWords Go.Proofs.YtgdpojleejdfaaaDoorW.PrintLast Go.Proofs.YtgdpojleejdfaaaDoorW.PrintMore
attribute [local go_sem] max2_int min2_int max_two min_two max_three min_three max_four min_four   -- for this text's walks alone
set_option linter.unusedVariables false
set_option linter.unusedSimpArgs false

/-! ### tmplpiperef12_Count: function 28 -/
mutual
def tmplpiperef12_Count.l0 : Nat → List (S39) → Int → Int → Option (Int)
  | 0, _, _, _ => none
  | k + 1, x0, x3, x4 => if x4 < (x0.length : Int) then (if 0 ≤ x4 then ((tmplpiperef12_block.f ((rd_T39 x0 x4).f0)).bind fun t246 => (if t246 = true then ((tmplpiperef12_Count.f k ((rd_T39 x0 x4).f6)).bind fun t248 => (if ((rd_T39 x0 x4).f0) = 2 then ((tmplpiperef12_Count.f k ((rd_T39 x0 x4).f7)).bind fun t251 => (tmplpiperef12_Count.l0 k x0 (wrap64 ((wrap64 ((wrap64 (x3 + 1)) + t248)) + t251)) (wrap64 (x4 + 1)))) else (tmplpiperef12_Count.l0 k x0 (wrap64 ((wrap64 (x3 + 1)) + t248)) (wrap64 (x4 + 1))))) else (if ((rd_T39 x0 x4).f0) = 2 then ((tmplpiperef12_Count.f k ((rd_T39 x0 x4).f7)).bind fun t254 => (tmplpiperef12_Count.l0 k x0 (wrap64 ((wrap64 (x3 + 1)) + t254)) (wrap64 (x4 + 1)))) else (tmplpiperef12_Count.l0 k x0 (wrap64 (x3 + 1)) (wrap64 (x4 + 1)))))) else (none)) else (some x3)
def tmplpiperef12_Count.f : Nat → List (S39) → Option (Int)
  | 0, _ => none
  | k + 1, l0 => tmplpiperef12_Count.l0 k l0 0 0
end
theorem tmplpiperef12_Count.mono_l : ∀ k, (∀ y0, LeO (tmplpiperef12_Count.f k y0) (tmplpiperef12_Count.f (k + 1) y0)) ∧ (∀ y0 y1 y2, LeO (tmplpiperef12_Count.l0 k y0 y1 y2) (tmplpiperef12_Count.l0 (k + 1) y0 y1 y2))
  | 0 => ⟨fun _ r h => by simp [tmplpiperef12_Count.f] at h, fun _ _ _ r h => by simp [tmplpiperef12_Count.l0] at h⟩
  | k + 1 => by
    obtain ⟨ih0, ih1⟩ := tmplpiperef12_Count.mono_l k
    refine ⟨?_, ?_⟩
    · intro y0
      unfold tmplpiperef12_Count.f
      repeat' first
      | (with_reducible exact ih0 _)
      | (with_reducible exact ih1 _ _ _)
      | (with_reducible exact LeO.refl _)
      | (with_reducible exact LeO.none _)
      | (with_reducible refine LeO.ite ?_ ?_)
      | (with_reducible refine LeO.bind ?_ (fun _ => ?_))
      | exact ih0 _
      | exact ih1 _ _ _
      | exact LeO.none _
      | refine LeO.ite ?_ ?_
      | refine LeO.bind ?_ (fun _ => ?_)
    · intro y0 y1 y2
      unfold tmplpiperef12_Count.l0
      repeat' first
      | (with_reducible exact ih0 _)
      | (with_reducible exact ih1 _ _ _)
      | (with_reducible exact LeO.refl _)
      | (with_reducible exact LeO.none _)
      | (with_reducible refine LeO.ite ?_ ?_)
      | (with_reducible refine LeO.bind ?_ (fun _ => ?_))
      | exact ih0 _
      | exact ih1 _ _ _
      | exact LeO.none _
      | refine LeO.ite ?_ ?_
      | refine LeO.bind ?_ (fun _ => ?_)
theorem tmplpiperef12_Count.mono : ∀ a0 k, LeO (tmplpiperef12_Count.f k a0) (tmplpiperef12_Count.f (k + 1) a0) := by
  intro a0 k
  obtain ⟨ih0, ih1⟩ := tmplpiperef12_Count.mono_l k
  exact ih0 a0
set_option maxHeartbeats 8000000 in
set_option maxRecDepth 100000 in
theorem tmplpiperef12_Count.calls (k : Nat) : ∀ (A0 : Option Addr) (c0 : Nat) (l0 : List (S39)) (r : Int) (w : World) (hr0 : Kd.C k39 w A0 l0.length l0) (hc0 : l0.length ≤ c0) (h : tmplpiperef12_Count.f k l0 = some r),
    Calls Tryd.prog 28 #[.slice A0 l0.length c0] w fun e w' => e = .returned (.int .i64 r) ∧ Drawn0 w w' := by
  induction k using Nat.strongRecOn with
  | _ k ih =>
  intro A0 c0 l0 r w hr0 hc0 h
  cases k with
  | zero => exact absurd h (by simp [tmplpiperef12_Count.f])
  | succ k =>
  simp only [tmplpiperef12_Count.f] at h
  have HR0 := Aside0.mk hr0
  have HC0 := Aside0.mk hc0
  clear hr0 hc0
  have H : (tmplpiperef12_Count.l0 k l0 0 0) = some r := h
  clear h
  have H' := Aside0.mk H
  clear H
  go_enter Tryd.func28, Tryd.ntmps28
  go_wp2
  go_loopg [3, 4] k (fun kq v3 v4 w' => ∃ (x3_1 : Int) (x4_1 : Int), v3 = .int .i64 x3_1 ∧ v4 = .int .i64 x4_1 ∧ Aside0 (tmplpiperef12_Count.l0 kq l0 x3_1 x4_1 = some r) ∧ Aside0 (kq ≤ k) ∧ Drawn0 w w')
  case atStart => exact ⟨(0), (0), (by first | rfl | (simp; done) | (simp [*]; done)), (by first | rfl | (simp; done) | (simp [*]; done)), H', ⟨Nat.le_refl _⟩, by repeat (first | exact Drawn0.refl _ | apply Drawn0.step)⟩
  case round =>
    clear H'
    obtain ⟨x3_1, x4_1, rfl, rfl, HA, HK1, ⟨m1, rfl⟩⟩ := hrel
    cases gk with
    | zero => exact absurd HA.out (by simp [tmplpiperef12_Count.l0])
    | succ k1 =>
      have H := HA.out
      clear HA
      simp only [tmplpiperef12_Count.l0] at H
      by_cases c2 : x4_1 < (l0.length : Int)
      · rw [if_pos c2] at H
        have c2b0 : decide (x4_1 < (l0.length : Int)) = true := decide_eq_true c2
        clear c2
        by_cases c3 : 0 ≤ x4_1
        · rw [if_pos c3] at H
          have c3b0 : decide (0 ≤ x4_1) = true := decide_eq_true c3
          clear c3
          replace H := Option.bind_eq_some_iff.mp H
          obtain ⟨t246, A40, H⟩ := H
          replace H : (if t246 = true then ((tmplpiperef12_Count.f k1 ((rd_T39 l0 x4_1).f6)).bind fun t248 => (if ((rd_T39 l0 x4_1).f0) = 2 then ((tmplpiperef12_Count.f k1 ((rd_T39 l0 x4_1).f7)).bind fun t251 => (tmplpiperef12_Count.l0 k1 l0 (wrap64 ((wrap64 ((wrap64 (x3_1 + 1)) + t248)) + t251)) (wrap64 (x4_1 + 1)))) else (tmplpiperef12_Count.l0 k1 l0 (wrap64 ((wrap64 (x3_1 + 1)) + t248)) (wrap64 (x4_1 + 1))))) else (if ((rd_T39 l0 x4_1).f0) = 2 then ((tmplpiperef12_Count.f k1 ((rd_T39 l0 x4_1).f7)).bind fun t254 => (tmplpiperef12_Count.l0 k1 l0 (wrap64 ((wrap64 (x3_1 + 1)) + t254)) (wrap64 (x4_1 + 1)))) else (tmplpiperef12_Count.l0 k1 l0 (wrap64 (x3_1 + 1)) (wrap64 (x4_1 + 1))))) = some r := H
          have A4 := Aside0.mk A40
          clear A40
          by_cases c5 : t246 = true
          · subst c5
            have H1 : ((tmplpiperef12_Count.f k1 ((rd_T39 l0 x4_1).f6)).bind fun t248 => (if ((rd_T39 l0 x4_1).f0) = 2 then ((tmplpiperef12_Count.f k1 ((rd_T39 l0 x4_1).f7)).bind fun t251 => (tmplpiperef12_Count.l0 k1 l0 (wrap64 ((wrap64 ((wrap64 (x3_1 + 1)) + t248)) + t251)) (wrap64 (x4_1 + 1)))) else (tmplpiperef12_Count.l0 k1 l0 (wrap64 ((wrap64 (x3_1 + 1)) + t248)) (wrap64 (x4_1 + 1))))) = some r := by rw [if_pos rfl] at H; exact H
            clear H
            have H := H1
            clear H1
            replace H := Option.bind_eq_some_iff.mp H
            obtain ⟨t248, A60, H⟩ := H
            replace H : (if ((rd_T39 l0 x4_1).f0) = 2 then ((tmplpiperef12_Count.f k1 ((rd_T39 l0 x4_1).f7)).bind fun t251 => (tmplpiperef12_Count.l0 k1 l0 (wrap64 ((wrap64 ((wrap64 (x3_1 + 1)) + t248)) + t251)) (wrap64 (x4_1 + 1)))) else (tmplpiperef12_Count.l0 k1 l0 (wrap64 ((wrap64 (x3_1 + 1)) + t248)) (wrap64 (x4_1 + 1)))) = some r := H
            have A6 := Aside0.mk A60
            clear A60
            by_cases c7 : ((rd_T39 l0 x4_1).f0) = 2
            · rw [if_pos c7] at H
              have c7b0 : (((rd_T39 l0 x4_1).f0) == 2) = true := beq_iff_eq.mpr c7
              have c7b1 : (((rd_T39 l0 x4_1).f0) != 2) = false := bne_eq_false_iff_eq.mpr c7
              clear c7
              replace H := Option.bind_eq_some_iff.mp H
              obtain ⟨t251, A80, H⟩ := H
              replace H : (tmplpiperef12_Count.l0 k1 l0 (wrap64 ((wrap64 ((wrap64 (x3_1 + 1)) + t248)) + t251)) (wrap64 (x4_1 + 1))) = some r := H
              have A8 := Aside0.mk A80
              clear A80
              have H' := Aside0.mk H
              clear H
              have p245 : 0 ≤ (x4_1 : Int) := of_decide_eq_true (by first | (with_reducible assumption) | assumption)
              have q245 : x4_1 < (l0.length : Int) := of_decide_eq_true (by first | (with_reducible assumption) | assumption)
              obtain ⟨ad245, A245_6, c245_6, A245_7, c245_7, e245, hx245_0, hx245_1, hx245_2, hx245_3, hx245_4, hx245_5, hx245_6, hx245_7, hl245_6, hi245_6, hl245_7, hi245_7⟩ := at_T39 HR0.out x4_1 p245 q245
              cases e245
              have HR245_6 := Aside0.mk hi245_6
              have HC245_6 := Aside0.mk hl245_6
              clear hi245_6 hl245_6
              have HR245_7 := Aside0.mk hi245_7
              have HC245_7 := Aside0.mk hl245_7
              clear hi245_7 hl245_7
              replace p245 := eq_true p245
              replace q245 := eq_true q245
              go_wp2_with (first | ((with_reducible refine gate_callee (f := 53) rfl ?_); refine goesL_ (some 18) rfl rfl Tryd.func53 (by kernel_rfl) rfl #[.int .i64 ((rd_T39 l0 x4_1).f0)] rfl (by (try simp only [List.map_toArray, List.map_cons, List.map_nil]); first | done | rfl | (simp only [List.length_drop, List.length_take]; rfl)) ?_; (with_reducible refine (tmplpiperef12_block.calls ((rd_T39 l0 x4_1).f0) true _ A4.out).mono ?_); rintro e w' ⟨rfl, ⟨nd, rfl⟩⟩; refine ⟨_, rfl, ?_⟩; have p247 : 0 ≤ (x4_1 : Int) := of_decide_eq_true (by first | (with_reducible assumption) | assumption); have q247 : x4_1 < (l0.length : Int) := of_decide_eq_true (by first | (with_reducible assumption) | assumption); obtain ⟨ad247, A247_6, c247_6, A247_7, c247_7, e247, hx247_0, hx247_1, hx247_2, hx247_3, hx247_4, hx247_5, hx247_6, hx247_7, hl247_6, hi247_6, hl247_7, hi247_7⟩ := at_T39 HR0.out x4_1 p247 q247; obtain rfl : ad245 = ad247 := (by injection e247); have HR247_6 := Aside0.mk hi247_6; have HC247_6 := Aside0.mk hl247_6; clear hi247_6 hl247_6; have HR247_7 := Aside0.mk hi247_7; have HC247_7 := Aside0.mk hl247_7; clear hi247_7 hl247_7; replace p247 := eq_true p247; replace q247 := eq_true q247; have ea_ := Option.some.inj (hx245_6.symm.trans hx247_6); injection ea_ with ea_ en_ ec_; subst ea_; subst ec_; clear en_; have ea_ := Option.some.inj (hx245_7.symm.trans hx247_7); injection ea_ with ea_ en_ ec_; subst ea_; subst ec_; clear en_) | ((with_reducible refine gate_callee (f := 28) rfl ?_); refine goesL_ (some 25) rfl rfl Tryd.func28 (by kernel_rfl) rfl #[.slice A245_6 ((rd_T39 l0 x4_1).f6).length c245_6] rfl (by (try simp only [List.map_toArray, List.map_cons, List.map_nil]); first | done | rfl | (simp only [List.length_drop, List.length_take]; rfl)) ?_; (with_reducible refine (ih k1 (by have := HK1.out; omega) _ _ ((rd_T39 l0 x4_1).f6) t248 _ ?side1 ?side2 A6.out).mono ?_); (case side1 => repeat (first | exact HR247_6.out | (with_reducible refine Kd.C_alloc ?_ _) | (with_reducible refine Kd.C_drewN ?_ _) | (with_reducible refine Kd.C_drew ?_))); (case side2 => exact HC247_6.out); rintro e w' ⟨rfl, ⟨nd, rfl⟩⟩; refine ⟨_, rfl, ?_⟩; have p249 : 0 ≤ (x4_1 : Int) := of_decide_eq_true (by first | (with_reducible assumption) | assumption); have q249 : x4_1 < (l0.length : Int) := of_decide_eq_true (by first | (with_reducible assumption) | assumption); obtain ⟨ad249, A249_6, c249_6, A249_7, c249_7, e249, hx249_0, hx249_1, hx249_2, hx249_3, hx249_4, hx249_5, hx249_6, hx249_7, hl249_6, hi249_6, hl249_7, hi249_7⟩ := at_T39 HR0.out x4_1 p249 q249; obtain rfl : ad245 = ad249 := (by injection e249); have HR249_6 := Aside0.mk hi249_6; have HC249_6 := Aside0.mk hl249_6; clear hi249_6 hl249_6; have HR249_7 := Aside0.mk hi249_7; have HC249_7 := Aside0.mk hl249_7; clear hi249_7 hl249_7; replace p249 := eq_true p249; replace q249 := eq_true q249; have ea_ := Option.some.inj (hx245_6.symm.trans hx249_6); injection ea_ with ea_ en_ ec_; subst ea_; subst ec_; clear en_; have ea_ := Option.some.inj (hx245_7.symm.trans hx249_7); injection ea_ with ea_ en_ ec_; subst ea_; subst ec_; clear en_; have p250 : 0 ≤ (x4_1 : Int) := of_decide_eq_true (by first | (with_reducible assumption) | assumption); have q250 : x4_1 < (l0.length : Int) := of_decide_eq_true (by first | (with_reducible assumption) | assumption); obtain ⟨ad250, A250_6, c250_6, A250_7, c250_7, e250, hx250_0, hx250_1, hx250_2, hx250_3, hx250_4, hx250_5, hx250_6, hx250_7, hl250_6, hi250_6, hl250_7, hi250_7⟩ := at_T39 HR0.out x4_1 p250 q250; obtain rfl : ad245 = ad250 := (by injection e250); have HR250_6 := Aside0.mk hi250_6; have HC250_6 := Aside0.mk hl250_6; clear hi250_6 hl250_6; have HR250_7 := Aside0.mk hi250_7; have HC250_7 := Aside0.mk hl250_7; clear hi250_7 hl250_7; replace p250 := eq_true p250; replace q250 := eq_true q250; have ea_ := Option.some.inj (hx245_6.symm.trans hx250_6); injection ea_ with ea_ en_ ec_; subst ea_; subst ec_; clear en_; have ea_ := Option.some.inj (hx245_7.symm.trans hx250_7); injection ea_ with ea_ en_ ec_; subst ea_; subst ec_; clear en_) | ((with_reducible refine gate_callee (f := 28) rfl ?_); refine goesL_ (some 39) rfl rfl Tryd.func28 (by kernel_rfl) rfl #[.slice A245_7 ((rd_T39 l0 x4_1).f7).length c245_7] rfl (by (try simp only [List.map_toArray, List.map_cons, List.map_nil]); first | done | rfl | (simp only [List.length_drop, List.length_take]; rfl)) ?_; (with_reducible refine (ih k1 (by have := HK1.out; omega) _ _ ((rd_T39 l0 x4_1).f7) t251 _ ?side1 ?side2 A8.out).mono ?_); (case side1 => repeat (first | exact HR250_7.out | (with_reducible refine Kd.C_alloc ?_ _) | (with_reducible refine Kd.C_drewN ?_ _) | (with_reducible refine Kd.C_drew ?_))); (case side2 => exact HC250_7.out); rintro e w' ⟨rfl, ⟨nd, rfl⟩⟩; refine ⟨_, rfl, ?_⟩))
              go_roundg k1
              case measure => have := HK1.out; omega
              case rel => exact ⟨(wrap64 ((wrap64 ((wrap64 (x3_1 + 1)) + t248)) + t251)), (wrap64 (x4_1 + 1)), (by first | rfl | (simp; done) | (simp [*]; done)), (by first | rfl | (simp; done) | (simp [*]; done)), H', ⟨by have := HK1.out; omega⟩, by repeat (first | exact Drawn0.refl _ | apply Drawn0.step)⟩
            · rw [if_neg c7] at H
              have c7b0 : (((rd_T39 l0 x4_1).f0) == 2) = false := beq_eq_false_iff_ne.mpr c7
              have c7b1 : (((rd_T39 l0 x4_1).f0) != 2) = true := bne_iff_ne.mpr c7
              have H' := Aside0.mk H
              clear H
              have p245 : 0 ≤ (x4_1 : Int) := of_decide_eq_true (by first | (with_reducible assumption) | assumption)
              have q245 : x4_1 < (l0.length : Int) := of_decide_eq_true (by first | (with_reducible assumption) | assumption)
              obtain ⟨ad245, A245_6, c245_6, A245_7, c245_7, e245, hx245_0, hx245_1, hx245_2, hx245_3, hx245_4, hx245_5, hx245_6, hx245_7, hl245_6, hi245_6, hl245_7, hi245_7⟩ := at_T39 HR0.out x4_1 p245 q245
              cases e245
              have HR245_6 := Aside0.mk hi245_6
              have HC245_6 := Aside0.mk hl245_6
              clear hi245_6 hl245_6
              have HR245_7 := Aside0.mk hi245_7
              have HC245_7 := Aside0.mk hl245_7
              clear hi245_7 hl245_7
              replace p245 := eq_true p245
              replace q245 := eq_true q245
              go_wp2_with (first | ((with_reducible refine gate_callee (f := 53) rfl ?_); refine goesL_ (some 18) rfl rfl Tryd.func53 (by kernel_rfl) rfl #[.int .i64 ((rd_T39 l0 x4_1).f0)] rfl (by (try simp only [List.map_toArray, List.map_cons, List.map_nil]); first | done | rfl | (simp only [List.length_drop, List.length_take]; rfl)) ?_; (with_reducible refine (tmplpiperef12_block.calls ((rd_T39 l0 x4_1).f0) true _ A4.out).mono ?_); rintro e w' ⟨rfl, ⟨nd, rfl⟩⟩; refine ⟨_, rfl, ?_⟩; have p247 : 0 ≤ (x4_1 : Int) := of_decide_eq_true (by first | (with_reducible assumption) | assumption); have q247 : x4_1 < (l0.length : Int) := of_decide_eq_true (by first | (with_reducible assumption) | assumption); obtain ⟨ad247, A247_6, c247_6, A247_7, c247_7, e247, hx247_0, hx247_1, hx247_2, hx247_3, hx247_4, hx247_5, hx247_6, hx247_7, hl247_6, hi247_6, hl247_7, hi247_7⟩ := at_T39 HR0.out x4_1 p247 q247; obtain rfl : ad245 = ad247 := (by injection e247); have HR247_6 := Aside0.mk hi247_6; have HC247_6 := Aside0.mk hl247_6; clear hi247_6 hl247_6; have HR247_7 := Aside0.mk hi247_7; have HC247_7 := Aside0.mk hl247_7; clear hi247_7 hl247_7; replace p247 := eq_true p247; replace q247 := eq_true q247; have ea_ := Option.some.inj (hx245_6.symm.trans hx247_6); injection ea_ with ea_ en_ ec_; subst ea_; subst ec_; clear en_; have ea_ := Option.some.inj (hx245_7.symm.trans hx247_7); injection ea_ with ea_ en_ ec_; subst ea_; subst ec_; clear en_) | ((with_reducible refine gate_callee (f := 28) rfl ?_); refine goesL_ (some 25) rfl rfl Tryd.func28 (by kernel_rfl) rfl #[.slice A245_6 ((rd_T39 l0 x4_1).f6).length c245_6] rfl (by (try simp only [List.map_toArray, List.map_cons, List.map_nil]); first | done | rfl | (simp only [List.length_drop, List.length_take]; rfl)) ?_; (with_reducible refine (ih k1 (by have := HK1.out; omega) _ _ ((rd_T39 l0 x4_1).f6) t248 _ ?side1 ?side2 A6.out).mono ?_); (case side1 => repeat (first | exact HR247_6.out | (with_reducible refine Kd.C_alloc ?_ _) | (with_reducible refine Kd.C_drewN ?_ _) | (with_reducible refine Kd.C_drew ?_))); (case side2 => exact HC247_6.out); rintro e w' ⟨rfl, ⟨nd, rfl⟩⟩; refine ⟨_, rfl, ?_⟩; have p249 : 0 ≤ (x4_1 : Int) := of_decide_eq_true (by first | (with_reducible assumption) | assumption); have q249 : x4_1 < (l0.length : Int) := of_decide_eq_true (by first | (with_reducible assumption) | assumption); obtain ⟨ad249, A249_6, c249_6, A249_7, c249_7, e249, hx249_0, hx249_1, hx249_2, hx249_3, hx249_4, hx249_5, hx249_6, hx249_7, hl249_6, hi249_6, hl249_7, hi249_7⟩ := at_T39 HR0.out x4_1 p249 q249; obtain rfl : ad245 = ad249 := (by injection e249); have HR249_6 := Aside0.mk hi249_6; have HC249_6 := Aside0.mk hl249_6; clear hi249_6 hl249_6; have HR249_7 := Aside0.mk hi249_7; have HC249_7 := Aside0.mk hl249_7; clear hi249_7 hl249_7; replace p249 := eq_true p249; replace q249 := eq_true q249; have ea_ := Option.some.inj (hx245_6.symm.trans hx249_6); injection ea_ with ea_ en_ ec_; subst ea_; subst ec_; clear en_; have ea_ := Option.some.inj (hx245_7.symm.trans hx249_7); injection ea_ with ea_ en_ ec_; subst ea_; subst ec_; clear en_))
              go_roundg k1
              case measure => have := HK1.out; omega
              case rel => exact ⟨(wrap64 ((wrap64 (x3_1 + 1)) + t248)), (wrap64 (x4_1 + 1)), (by first | rfl | (simp; done) | (simp [*]; done)), (by first | rfl | (simp; done) | (simp [*]; done)), H', ⟨by have := HK1.out; omega⟩, by repeat (first | exact Drawn0.refl _ | apply Drawn0.step)⟩
          · replace c5 := Bool.eq_false_iff.mpr c5
            subst c5
            have H1 : (if ((rd_T39 l0 x4_1).f0) = 2 then ((tmplpiperef12_Count.f k1 ((rd_T39 l0 x4_1).f7)).bind fun t254 => (tmplpiperef12_Count.l0 k1 l0 (wrap64 ((wrap64 (x3_1 + 1)) + t254)) (wrap64 (x4_1 + 1)))) else (tmplpiperef12_Count.l0 k1 l0 (wrap64 (x3_1 + 1)) (wrap64 (x4_1 + 1)))) = some r := by rw [if_neg (show ¬ (false = true) by decide)] at H; exact H
            clear H
            have H := H1
            clear H1
            by_cases c9 : ((rd_T39 l0 x4_1).f0) = 2
            · rw [if_pos c9] at H
              have c9b0 : (((rd_T39 l0 x4_1).f0) == 2) = true := beq_iff_eq.mpr c9
              have c9b1 : (((rd_T39 l0 x4_1).f0) != 2) = false := bne_eq_false_iff_eq.mpr c9
              clear c9
              replace H := Option.bind_eq_some_iff.mp H
              obtain ⟨t254, A100, H⟩ := H
              replace H : (tmplpiperef12_Count.l0 k1 l0 (wrap64 ((wrap64 (x3_1 + 1)) + t254)) (wrap64 (x4_1 + 1))) = some r := H
              have A10 := Aside0.mk A100
              clear A100
              have H' := Aside0.mk H
              clear H
              have p245 : 0 ≤ (x4_1 : Int) := of_decide_eq_true (by first | (with_reducible assumption) | assumption)
              have q245 : x4_1 < (l0.length : Int) := of_decide_eq_true (by first | (with_reducible assumption) | assumption)
              obtain ⟨ad245, A245_6, c245_6, A245_7, c245_7, e245, hx245_0, hx245_1, hx245_2, hx245_3, hx245_4, hx245_5, hx245_6, hx245_7, hl245_6, hi245_6, hl245_7, hi245_7⟩ := at_T39 HR0.out x4_1 p245 q245
              cases e245
              have HR245_6 := Aside0.mk hi245_6
              have HC245_6 := Aside0.mk hl245_6
              clear hi245_6 hl245_6
              have HR245_7 := Aside0.mk hi245_7
              have HC245_7 := Aside0.mk hl245_7
              clear hi245_7 hl245_7
              replace p245 := eq_true p245
              replace q245 := eq_true q245
              go_wp2_with (first | ((with_reducible refine gate_callee (f := 53) rfl ?_); refine goesL_ (some 18) rfl rfl Tryd.func53 (by kernel_rfl) rfl #[.int .i64 ((rd_T39 l0 x4_1).f0)] rfl (by (try simp only [List.map_toArray, List.map_cons, List.map_nil]); first | done | rfl | (simp only [List.length_drop, List.length_take]; rfl)) ?_; (with_reducible refine (tmplpiperef12_block.calls ((rd_T39 l0 x4_1).f0) false _ A4.out).mono ?_); rintro e w' ⟨rfl, ⟨nd, rfl⟩⟩; refine ⟨_, rfl, ?_⟩; have p252 : 0 ≤ (x4_1 : Int) := of_decide_eq_true (by first | (with_reducible assumption) | assumption); have q252 : x4_1 < (l0.length : Int) := of_decide_eq_true (by first | (with_reducible assumption) | assumption); obtain ⟨ad252, A252_6, c252_6, A252_7, c252_7, e252, hx252_0, hx252_1, hx252_2, hx252_3, hx252_4, hx252_5, hx252_6, hx252_7, hl252_6, hi252_6, hl252_7, hi252_7⟩ := at_T39 HR0.out x4_1 p252 q252; obtain rfl : ad245 = ad252 := (by injection e252); have HR252_6 := Aside0.mk hi252_6; have HC252_6 := Aside0.mk hl252_6; clear hi252_6 hl252_6; have HR252_7 := Aside0.mk hi252_7; have HC252_7 := Aside0.mk hl252_7; clear hi252_7 hl252_7; replace p252 := eq_true p252; replace q252 := eq_true q252; have ea_ := Option.some.inj (hx245_6.symm.trans hx252_6); injection ea_ with ea_ en_ ec_; subst ea_; subst ec_; clear en_; have ea_ := Option.some.inj (hx245_7.symm.trans hx252_7); injection ea_ with ea_ en_ ec_; subst ea_; subst ec_; clear en_; have p253 : 0 ≤ (x4_1 : Int) := of_decide_eq_true (by first | (with_reducible assumption) | assumption); have q253 : x4_1 < (l0.length : Int) := of_decide_eq_true (by first | (with_reducible assumption) | assumption); obtain ⟨ad253, A253_6, c253_6, A253_7, c253_7, e253, hx253_0, hx253_1, hx253_2, hx253_3, hx253_4, hx253_5, hx253_6, hx253_7, hl253_6, hi253_6, hl253_7, hi253_7⟩ := at_T39 HR0.out x4_1 p253 q253; obtain rfl : ad245 = ad253 := (by injection e253); have HR253_6 := Aside0.mk hi253_6; have HC253_6 := Aside0.mk hl253_6; clear hi253_6 hl253_6; have HR253_7 := Aside0.mk hi253_7; have HC253_7 := Aside0.mk hl253_7; clear hi253_7 hl253_7; replace p253 := eq_true p253; replace q253 := eq_true q253; have ea_ := Option.some.inj (hx245_6.symm.trans hx253_6); injection ea_ with ea_ en_ ec_; subst ea_; subst ec_; clear en_; have ea_ := Option.some.inj (hx245_7.symm.trans hx253_7); injection ea_ with ea_ en_ ec_; subst ea_; subst ec_; clear en_) | ((with_reducible refine gate_callee (f := 28) rfl ?_); refine goesL_ (some 39) rfl rfl Tryd.func28 (by kernel_rfl) rfl #[.slice A245_7 ((rd_T39 l0 x4_1).f7).length c245_7] rfl (by (try simp only [List.map_toArray, List.map_cons, List.map_nil]); first | done | rfl | (simp only [List.length_drop, List.length_take]; rfl)) ?_; (with_reducible refine (ih k1 (by have := HK1.out; omega) _ _ ((rd_T39 l0 x4_1).f7) t254 _ ?side1 ?side2 A10.out).mono ?_); (case side1 => repeat (first | exact HR253_7.out | (with_reducible refine Kd.C_alloc ?_ _) | (with_reducible refine Kd.C_drewN ?_ _) | (with_reducible refine Kd.C_drew ?_))); (case side2 => exact HC253_7.out); rintro e w' ⟨rfl, ⟨nd, rfl⟩⟩; refine ⟨_, rfl, ?_⟩))
              go_roundg k1
              case measure => have := HK1.out; omega
              case rel => exact ⟨(wrap64 ((wrap64 (x3_1 + 1)) + t254)), (wrap64 (x4_1 + 1)), (by first | rfl | (simp; done) | (simp [*]; done)), (by first | rfl | (simp; done) | (simp [*]; done)), H', ⟨by have := HK1.out; omega⟩, by repeat (first | exact Drawn0.refl _ | apply Drawn0.step)⟩
            · rw [if_neg c9] at H
              have c9b0 : (((rd_T39 l0 x4_1).f0) == 2) = false := beq_eq_false_iff_ne.mpr c9
              have c9b1 : (((rd_T39 l0 x4_1).f0) != 2) = true := bne_iff_ne.mpr c9
              have H' := Aside0.mk H
              clear H
              have p245 : 0 ≤ (x4_1 : Int) := of_decide_eq_true (by first | (with_reducible assumption) | assumption)
              have q245 : x4_1 < (l0.length : Int) := of_decide_eq_true (by first | (with_reducible assumption) | assumption)
              obtain ⟨ad245, A245_6, c245_6, A245_7, c245_7, e245, hx245_0, hx245_1, hx245_2, hx245_3, hx245_4, hx245_5, hx245_6, hx245_7, hl245_6, hi245_6, hl245_7, hi245_7⟩ := at_T39 HR0.out x4_1 p245 q245
              cases e245
              have HR245_6 := Aside0.mk hi245_6
              have HC245_6 := Aside0.mk hl245_6
              clear hi245_6 hl245_6
              have HR245_7 := Aside0.mk hi245_7
              have HC245_7 := Aside0.mk hl245_7
              clear hi245_7 hl245_7
              replace p245 := eq_true p245
              replace q245 := eq_true q245
              go_wp2_with (first | ((with_reducible refine gate_callee (f := 53) rfl ?_); refine goesL_ (some 18) rfl rfl Tryd.func53 (by kernel_rfl) rfl #[.int .i64 ((rd_T39 l0 x4_1).f0)] rfl (by (try simp only [List.map_toArray, List.map_cons, List.map_nil]); first | done | rfl | (simp only [List.length_drop, List.length_take]; rfl)) ?_; (with_reducible refine (tmplpiperef12_block.calls ((rd_T39 l0 x4_1).f0) false _ A4.out).mono ?_); rintro e w' ⟨rfl, ⟨nd, rfl⟩⟩; refine ⟨_, rfl, ?_⟩; have p252 : 0 ≤ (x4_1 : Int) := of_decide_eq_true (by first | (with_reducible assumption) | assumption); have q252 : x4_1 < (l0.length : Int) := of_decide_eq_true (by first | (with_reducible assumption) | assumption); obtain ⟨ad252, A252_6, c252_6, A252_7, c252_7, e252, hx252_0, hx252_1, hx252_2, hx252_3, hx252_4, hx252_5, hx252_6, hx252_7, hl252_6, hi252_6, hl252_7, hi252_7⟩ := at_T39 HR0.out x4_1 p252 q252; obtain rfl : ad245 = ad252 := (by injection e252); have HR252_6 := Aside0.mk hi252_6; have HC252_6 := Aside0.mk hl252_6; clear hi252_6 hl252_6; have HR252_7 := Aside0.mk hi252_7; have HC252_7 := Aside0.mk hl252_7; clear hi252_7 hl252_7; replace p252 := eq_true p252; replace q252 := eq_true q252; have ea_ := Option.some.inj (hx245_6.symm.trans hx252_6); injection ea_ with ea_ en_ ec_; subst ea_; subst ec_; clear en_; have ea_ := Option.some.inj (hx245_7.symm.trans hx252_7); injection ea_ with ea_ en_ ec_; subst ea_; subst ec_; clear en_))
              go_roundg k1
              case measure => have := HK1.out; omega
              case rel => exact ⟨(wrap64 (x3_1 + 1)), (wrap64 (x4_1 + 1)), (by first | rfl | (simp; done) | (simp [*]; done)), (by first | rfl | (simp; done) | (simp [*]; done)), H', ⟨by have := HK1.out; omega⟩, by repeat (first | exact Drawn0.refl _ | apply Drawn0.step)⟩
        · rw [if_neg c3] at H
          exact absurd H (by simp)
      · rw [if_neg c2] at H
        have c2b0 : decide (x4_1 < (l0.length : Int)) = false := decide_eq_false c2
        clear c2
        obtain rfl := Option.some.inj H
        go_wp2
        go_ret
        exact ⟨by first | rfl | (simp; done) | (simp [*]; done), by repeat (first | exact Drawn0.refl _ | apply Drawn0.step)⟩

/-! ### tmplpipelaw12_ParseCountMatchesReference: function 10 -/
def tmplpipelaw12_ParseCountMatchesReference.f (k : Nat) (l0 : List (S39)) : Option (Bool) := (tmplpipelaw12_TooLarge.f k l0).bind fun t213 => (if t213 > 0 then ((tmplpipelaw12_alive.f k).bind fun t214 => (some t214)) else ((tmplpipelaw12_alive.f k).bind fun t215 => (if t215 = true then ((parse_Count.f k l0).bind fun t216 => ((tmplpiperef12_Count.f k l0).bind fun t217 => (if t216 = t217 then ((parse_Nest.f k l0).bind fun t218 => ((tmplpiperef12_Nest.f k l0).bind fun t219 => (some (t218 == t219)))) else (some false)))) else (some false))))
set_option maxHeartbeats 8000000 in
set_option maxRecDepth 100000 in
theorem tmplpipelaw12_ParseCountMatchesReference.calls (k : Nat) (A0 : Option Addr) (c0 : Nat) (l0 : List (S39)) (r : Bool) (w : World) (hG_ : GS w) (hr0 : Kd.C k39 w A0 l0.length l0) (hc0 : l0.length ≤ c0) (h : tmplpipelaw12_ParseCountMatchesReference.f k l0 = some r) :
    Calls Tryd.prog 10 #[.slice A0 l0.length c0] w fun e w' => e = .returned (.bool r) ∧ Below w.heap.size w w' := by
  have HR0 := Aside0.mk hr0
  have HC0 := Aside0.mk hc0
  clear hr0 hc0
  have HB := Aside0.mk (Below.refl w.heap.size w)
  have H : ((tmplpipelaw12_TooLarge.f k l0).bind fun t213 => (if t213 > 0 then ((tmplpipelaw12_alive.f k).bind fun t214 => (some t214)) else ((tmplpipelaw12_alive.f k).bind fun t215 => (if t215 = true then ((parse_Count.f k l0).bind fun t216 => ((tmplpiperef12_Count.f k l0).bind fun t217 => (if t216 = t217 then ((parse_Nest.f k l0).bind fun t218 => ((tmplpiperef12_Nest.f k l0).bind fun t219 => (some (t218 == t219)))) else (some false)))) else (some false))))) = some r := h
  clear h
  replace H := Option.bind_eq_some_iff.mp H
  obtain ⟨t213, A20, H⟩ := H
  replace H : (if t213 > 0 then ((tmplpipelaw12_alive.f k).bind fun t214 => (some t214)) else ((tmplpipelaw12_alive.f k).bind fun t215 => (if t215 = true then ((parse_Count.f k l0).bind fun t216 => ((tmplpiperef12_Count.f k l0).bind fun t217 => (if t216 = t217 then ((parse_Nest.f k l0).bind fun t218 => ((tmplpiperef12_Nest.f k l0).bind fun t219 => (some (t218 == t219)))) else (some false)))) else (some false)))) = some r := H
  have A2 := Aside0.mk A20
  clear A20
  by_cases c3 : t213 > 0
  · rw [if_pos c3] at H
    have c3b0 : decide (0 < t213) = true := decide_eq_true c3
    clear c3
    replace H := Option.bind_eq_some_iff.mp H
    obtain ⟨t214, A40, H⟩ := H
    replace H : (some t214) = some r := H
    have A4 := Aside0.mk A40
    clear A40
    obtain rfl := Option.some.inj H
    go_enter Tryd.func10, Tryd.ntmps10
    go_wp2_with (first | ((with_reducible refine gate_callee (f := 27) rfl ?_); refine goesL_ (some 4) rfl rfl Tryd.func27 (by kernel_rfl) rfl #[.slice A0 l0.length c0] rfl (by (try simp only [List.map_toArray, List.map_cons, List.map_nil]); first | done | rfl | (simp only [List.length_drop, List.length_take]; rfl)) ?_; (with_reducible refine (tmplpipelaw12_TooLarge.calls k _ _ l0 t213 _ ?side1 ?side2 A2.out).mono ?_); (case side1 => repeat (first | exact HR0.out | (with_reducible refine Kd.C_alloc ?_ _) | (with_reducible refine Kd.C_drewN ?_ _) | (with_reducible refine Kd.C_drew ?_))); (case side2 => exact HC0.out); rintro e w5 ⟨rfl, hb⟩; refine ⟨_, rfl, ?_⟩; have n0_ := Aside0.mk (below_step (by repeat (first | (with_reducible first | exact HB.out | apply below_alloc | apply pw_below_drewN | apply below_drew1) | exact HB.out)) hb); clear HB; have HB := n0_; clear n0_; (try clear hb); (try clear hb2); (try clear hk); (try clear hi)) | ((with_reducible refine gate_callee (f := 18) rfl ?_); refine goesL_ (some 6) rfl rfl Tryd.func18 (by kernel_rfl) rfl #[] rfl (by (try simp only [List.map_toArray, List.map_cons, List.map_nil]); first | done | rfl | (simp only [List.length_drop, List.length_take]; rfl)) ?_; (with_reducible refine (tmplpipelaw12_alive.calls k  t214 _ (GS.below hG_ (by repeat (first | (with_reducible first | exact HB.out | apply below_alloc | apply pw_below_drewN | apply below_drew1) | exact HB.out))) A4.out).mono ?_); rintro e w6 ⟨rfl, hb⟩; refine ⟨_, rfl, ?_⟩; have n0_ := Aside0.mk (below_step (by repeat (first | (with_reducible first | exact HB.out | apply below_alloc | apply pw_below_drewN | apply below_drew1) | exact HB.out)) hb); clear HB; have HB := n0_; clear n0_; (try clear hb); (try clear hb2); (try clear hk); (try clear hi)))
    go_ret
    exact ⟨by first | rfl | (simp [errW_none, errW_some] <;> rfl) | (simp [*, errW_none, errW_some] <;> rfl), by repeat (first | (with_reducible first | exact HB.out | apply below_alloc | apply pw_below_drewN | apply below_drew1) | exact HB.out)⟩
  · rw [if_neg c3] at H
    have c3b0 : decide (0 < t213) = false := decide_eq_false c3
    clear c3
    replace H := Option.bind_eq_some_iff.mp H
    obtain ⟨t215, A70, H⟩ := H
    replace H : (if t215 = true then ((parse_Count.f k l0).bind fun t216 => ((tmplpiperef12_Count.f k l0).bind fun t217 => (if t216 = t217 then ((parse_Nest.f k l0).bind fun t218 => ((tmplpiperef12_Nest.f k l0).bind fun t219 => (some (t218 == t219)))) else (some false)))) else (some false)) = some r := H
    have A7 := Aside0.mk A70
    clear A70
    by_cases c8 : t215 = true
    · subst c8
      have H1 : ((parse_Count.f k l0).bind fun t216 => ((tmplpiperef12_Count.f k l0).bind fun t217 => (if t216 = t217 then ((parse_Nest.f k l0).bind fun t218 => ((tmplpiperef12_Nest.f k l0).bind fun t219 => (some (t218 == t219)))) else (some false)))) = some r := by rw [if_pos rfl] at H; exact H
      clear H
      have H := H1
      clear H1
      replace H := Option.bind_eq_some_iff.mp H
      obtain ⟨t216, A90, H⟩ := H
      replace H : ((tmplpiperef12_Count.f k l0).bind fun t217 => (if t216 = t217 then ((parse_Nest.f k l0).bind fun t218 => ((tmplpiperef12_Nest.f k l0).bind fun t219 => (some (t218 == t219)))) else (some false))) = some r := H
      have A9 := Aside0.mk A90
      clear A90
      replace H := Option.bind_eq_some_iff.mp H
      obtain ⟨t217, A100, H⟩ := H
      replace H : (if t216 = t217 then ((parse_Nest.f k l0).bind fun t218 => ((tmplpiperef12_Nest.f k l0).bind fun t219 => (some (t218 == t219)))) else (some false)) = some r := H
      have A10 := Aside0.mk A100
      clear A100
      by_cases c11 : t216 = t217
      · rw [if_pos c11] at H
        have c11b0 : (t216 == t217) = true := beq_iff_eq.mpr c11
        have c11b1 : (t216 != t217) = false := bne_eq_false_iff_eq.mpr c11
        clear c11
        replace H := Option.bind_eq_some_iff.mp H
        obtain ⟨t218, A120, H⟩ := H
        replace H : ((tmplpiperef12_Nest.f k l0).bind fun t219 => (some (t218 == t219))) = some r := H
        have A12 := Aside0.mk A120
        clear A120
        replace H := Option.bind_eq_some_iff.mp H
        obtain ⟨t219, A130, H⟩ := H
        replace H : (some (t218 == t219)) = some r := H
        have A13 := Aside0.mk A130
        clear A130
        obtain rfl := Option.some.inj H
        go_enter Tryd.func10, Tryd.ntmps10
        go_wp2_with (first | ((with_reducible refine gate_callee (f := 27) rfl ?_); refine goesL_ (some 4) rfl rfl Tryd.func27 (by kernel_rfl) rfl #[.slice A0 l0.length c0] rfl (by (try simp only [List.map_toArray, List.map_cons, List.map_nil]); first | done | rfl | (simp only [List.length_drop, List.length_take]; rfl)) ?_; (with_reducible refine (tmplpipelaw12_TooLarge.calls k _ _ l0 t213 _ ?side1 ?side2 A2.out).mono ?_); (case side1 => repeat (first | exact HR0.out | (with_reducible refine Kd.C_alloc ?_ _) | (with_reducible refine Kd.C_drewN ?_ _) | (with_reducible refine Kd.C_drew ?_))); (case side2 => exact HC0.out); rintro e w14 ⟨rfl, hb⟩; refine ⟨_, rfl, ?_⟩; have n0_ := Aside0.mk (below_step (by repeat (first | (with_reducible first | exact HB.out | apply below_alloc | apply pw_below_drewN | apply below_drew1) | exact HB.out)) hb); clear HB; have HB := n0_; clear n0_; (try clear hb); (try clear hb2); (try clear hk); (try clear hi)) | ((with_reducible refine gate_callee (f := 18) rfl ?_); refine goesL_ (some 7) rfl rfl Tryd.func18 (by kernel_rfl) rfl #[] rfl (by (try simp only [List.map_toArray, List.map_cons, List.map_nil]); first | done | rfl | (simp only [List.length_drop, List.length_take]; rfl)) ?_; (with_reducible refine (tmplpipelaw12_alive.calls k  true _ (GS.below hG_ (by repeat (first | (with_reducible first | exact HB.out | apply below_alloc | apply pw_below_drewN | apply below_drew1) | exact HB.out))) A7.out).mono ?_); rintro e w15 ⟨rfl, hb⟩; refine ⟨_, rfl, ?_⟩; have n0_ := Aside0.mk (below_step (by repeat (first | (with_reducible first | exact HB.out | apply below_alloc | apply pw_below_drewN | apply below_drew1) | exact HB.out)) hb); clear HB; have HB := n0_; clear n0_; (try clear hb); (try clear hb2); (try clear hk); (try clear hi)) | (go_at_call 22; (with_reducible refine (parse_Count.calls k _ _ l0 t216 _ ?side1 ?side2 A9.out).mono ?_); (case side1 => repeat (first | exact (Kd.C_below HR0.out HB.out) | (with_reducible refine Kd.C_alloc ?_ _) | (with_reducible refine Kd.C_drewN ?_ _) | (with_reducible refine Kd.C_drew ?_))); (case side2 => exact HC0.out); rintro e w16 ⟨rfl, hb⟩; have n0_ := Aside0.mk (below_step (by repeat (first | (with_reducible first | exact HB.out | apply below_alloc | apply pw_below_drewN | apply below_drew1) | exact HB.out)) hb); clear HB; have HB := n0_; clear n0_; (try clear hb); (try clear hb2); (try clear hk); (try clear hi)) | (go_at_call 28; (with_reducible refine (tmplpiperef12_Count.calls k _ _ l0 t217 _ ?side1 ?side2 A10.out).mono ?_); (case side1 => repeat (first | exact (Kd.C_below HR0.out HB.out) | (with_reducible refine Kd.C_alloc ?_ _) | (with_reducible refine Kd.C_drewN ?_ _) | (with_reducible refine Kd.C_drew ?_))); (case side2 => exact HC0.out); rintro e w' ⟨rfl, ⟨nd, rfl⟩⟩) | (go_at_call 29; (with_reducible refine (parse_Nest.calls k _ _ l0 t218 _ ?side1 ?side2 A12.out).mono ?_); (case side1 => repeat (first | exact (Kd.C_below HR0.out (by repeat (first | (with_reducible first | exact HB.out | apply below_alloc | apply pw_below_drewN | apply below_drew1) | exact HB.out))) | (with_reducible refine Kd.C_alloc ?_ _) | (with_reducible refine Kd.C_drewN ?_ _) | (with_reducible refine Kd.C_drew ?_))); (case side2 => exact HC0.out); rintro e w17 ⟨rfl, hb⟩; have n0_ := Aside0.mk (below_step (by repeat (first | (with_reducible first | exact HB.out | apply below_alloc | apply pw_below_drewN | apply below_drew1) | exact HB.out)) hb); clear HB; have HB := n0_; clear n0_; (try clear hb); (try clear hb2); (try clear hk); (try clear hi)) | (go_at_call 30; (with_reducible refine (tmplpiperef12_Nest.calls k _ _ l0 t219 _ ?side1 ?side2 A13.out).mono ?_); (case side1 => repeat (first | exact (Kd.C_below HR0.out HB.out) | (with_reducible refine Kd.C_alloc ?_ _) | (with_reducible refine Kd.C_drewN ?_ _) | (with_reducible refine Kd.C_drew ?_))); (case side2 => exact HC0.out); rintro e w18 ⟨rfl, hb⟩; have n0_ := Aside0.mk (below_step (by repeat (first | (with_reducible first | exact HB.out | apply below_alloc | apply pw_below_drewN | apply below_drew1) | exact HB.out)) hb); clear HB; have HB := n0_; clear n0_; (try clear hb); (try clear hb2); (try clear hk); (try clear hi)))
        go_ret
        exact ⟨by first | rfl | (simp [errW_none, errW_some] <;> rfl) | (simp [*, errW_none, errW_some] <;> rfl), by repeat (first | (with_reducible first | exact HB.out | apply below_alloc | apply pw_below_drewN | apply below_drew1) | exact HB.out)⟩
      · rw [if_neg c11] at H
        have c11b0 : (t216 == t217) = false := beq_eq_false_iff_ne.mpr c11
        have c11b1 : (t216 != t217) = true := bne_iff_ne.mpr c11
        obtain rfl := Option.some.inj H
        go_enter Tryd.func10, Tryd.ntmps10
        go_wp2_with (first | ((with_reducible refine gate_callee (f := 27) rfl ?_); refine goesL_ (some 4) rfl rfl Tryd.func27 (by kernel_rfl) rfl #[.slice A0 l0.length c0] rfl (by (try simp only [List.map_toArray, List.map_cons, List.map_nil]); first | done | rfl | (simp only [List.length_drop, List.length_take]; rfl)) ?_; (with_reducible refine (tmplpipelaw12_TooLarge.calls k _ _ l0 t213 _ ?side1 ?side2 A2.out).mono ?_); (case side1 => repeat (first | exact HR0.out | (with_reducible refine Kd.C_alloc ?_ _) | (with_reducible refine Kd.C_drewN ?_ _) | (with_reducible refine Kd.C_drew ?_))); (case side2 => exact HC0.out); rintro e w19 ⟨rfl, hb⟩; refine ⟨_, rfl, ?_⟩; have n0_ := Aside0.mk (below_step (by repeat (first | (with_reducible first | exact HB.out | apply below_alloc | apply pw_below_drewN | apply below_drew1) | exact HB.out)) hb); clear HB; have HB := n0_; clear n0_; (try clear hb); (try clear hb2); (try clear hk); (try clear hi)) | ((with_reducible refine gate_callee (f := 18) rfl ?_); refine goesL_ (some 7) rfl rfl Tryd.func18 (by kernel_rfl) rfl #[] rfl (by (try simp only [List.map_toArray, List.map_cons, List.map_nil]); first | done | rfl | (simp only [List.length_drop, List.length_take]; rfl)) ?_; (with_reducible refine (tmplpipelaw12_alive.calls k  true _ (GS.below hG_ (by repeat (first | (with_reducible first | exact HB.out | apply below_alloc | apply pw_below_drewN | apply below_drew1) | exact HB.out))) A7.out).mono ?_); rintro e w20 ⟨rfl, hb⟩; refine ⟨_, rfl, ?_⟩; have n0_ := Aside0.mk (below_step (by repeat (first | (with_reducible first | exact HB.out | apply below_alloc | apply pw_below_drewN | apply below_drew1) | exact HB.out)) hb); clear HB; have HB := n0_; clear n0_; (try clear hb); (try clear hb2); (try clear hk); (try clear hi)) | (go_at_call 22; (with_reducible refine (parse_Count.calls k _ _ l0 t216 _ ?side1 ?side2 A9.out).mono ?_); (case side1 => repeat (first | exact (Kd.C_below HR0.out HB.out) | (with_reducible refine Kd.C_alloc ?_ _) | (with_reducible refine Kd.C_drewN ?_ _) | (with_reducible refine Kd.C_drew ?_))); (case side2 => exact HC0.out); rintro e w21 ⟨rfl, hb⟩; have n0_ := Aside0.mk (below_step (by repeat (first | (with_reducible first | exact HB.out | apply below_alloc | apply pw_below_drewN | apply below_drew1) | exact HB.out)) hb); clear HB; have HB := n0_; clear n0_; (try clear hb); (try clear hb2); (try clear hk); (try clear hi)) | (go_at_call 28; (with_reducible refine (tmplpiperef12_Count.calls k _ _ l0 t217 _ ?side1 ?side2 A10.out).mono ?_); (case side1 => repeat (first | exact (Kd.C_below HR0.out HB.out) | (with_reducible refine Kd.C_alloc ?_ _) | (with_reducible refine Kd.C_drewN ?_ _) | (with_reducible refine Kd.C_drew ?_))); (case side2 => exact HC0.out); rintro e w' ⟨rfl, ⟨nd, rfl⟩⟩))
        go_ret
        exact ⟨by first | rfl | (simp [errW_none, errW_some] <;> rfl) | (simp [*, errW_none, errW_some] <;> rfl), by repeat (first | (with_reducible first | exact HB.out | apply below_alloc | apply pw_below_drewN | apply below_drew1) | exact HB.out)⟩
    · replace c8 := Bool.eq_false_iff.mpr c8
      subst c8
      have H1 : (some false) = some r := by rw [if_neg (show ¬ (false = true) by decide)] at H; exact H
      clear H
      have H := H1
      clear H1
      obtain rfl := Option.some.inj H
      go_enter Tryd.func10, Tryd.ntmps10
      go_wp2_with (first | ((with_reducible refine gate_callee (f := 27) rfl ?_); refine goesL_ (some 4) rfl rfl Tryd.func27 (by kernel_rfl) rfl #[.slice A0 l0.length c0] rfl (by (try simp only [List.map_toArray, List.map_cons, List.map_nil]); first | done | rfl | (simp only [List.length_drop, List.length_take]; rfl)) ?_; (with_reducible refine (tmplpipelaw12_TooLarge.calls k _ _ l0 t213 _ ?side1 ?side2 A2.out).mono ?_); (case side1 => repeat (first | exact HR0.out | (with_reducible refine Kd.C_alloc ?_ _) | (with_reducible refine Kd.C_drewN ?_ _) | (with_reducible refine Kd.C_drew ?_))); (case side2 => exact HC0.out); rintro e w22 ⟨rfl, hb⟩; refine ⟨_, rfl, ?_⟩; have n0_ := Aside0.mk (below_step (by repeat (first | (with_reducible first | exact HB.out | apply below_alloc | apply pw_below_drewN | apply below_drew1) | exact HB.out)) hb); clear HB; have HB := n0_; clear n0_; (try clear hb); (try clear hb2); (try clear hk); (try clear hi)) | ((with_reducible refine gate_callee (f := 18) rfl ?_); refine goesL_ (some 7) rfl rfl Tryd.func18 (by kernel_rfl) rfl #[] rfl (by (try simp only [List.map_toArray, List.map_cons, List.map_nil]); first | done | rfl | (simp only [List.length_drop, List.length_take]; rfl)) ?_; (with_reducible refine (tmplpipelaw12_alive.calls k  false _ (GS.below hG_ (by repeat (first | (with_reducible first | exact HB.out | apply below_alloc | apply pw_below_drewN | apply below_drew1) | exact HB.out))) A7.out).mono ?_); rintro e w23 ⟨rfl, hb⟩; refine ⟨_, rfl, ?_⟩; have n0_ := Aside0.mk (below_step (by repeat (first | (with_reducible first | exact HB.out | apply below_alloc | apply pw_below_drewN | apply below_drew1) | exact HB.out)) hb); clear HB; have HB := n0_; clear n0_; (try clear hb); (try clear hb2); (try clear hk); (try clear hi)))
      go_ret
      exact ⟨by first | rfl | (simp [errW_none, errW_some] <;> rfl) | (simp [*, errW_none, errW_some] <;> rfl), by repeat (first | (with_reducible first | exact HB.out | apply below_alloc | apply pw_below_drewN | apply below_drew1) | exact HB.out)⟩

end Go.Proofs.YtgdpojleejdfaaaDoor.Px
