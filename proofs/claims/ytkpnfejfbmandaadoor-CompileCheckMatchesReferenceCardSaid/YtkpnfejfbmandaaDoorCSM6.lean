import Derived.Test.YtkpnfejfbmandaaDoorCSM5
import Derived.Test.YtkpnfejfbmandaaDoorCU6
import Derived.Test.YtkpnfejfbmandaaDoorRows
import Derived.Test.YtkpnfejfbmandaaDoorCU5
import Derived.Test.YtkpnfejfbmandaaDoorCU4
import Derived.Test.YtkpnfejfbmandaaDoorCU2
import Derived.Test.YtkpnfejfbmandaaDoorCSM0
import Derived.Test.YtkpnfejfbmandaaDoorCU3
import Derived.Maps.RangeWalk
import Derived.Lib.FieldsP
import Derived.Lib.Split
import Derived.Lib.IndexMore
import Derived.Lib.DecodeN
import Derived.Laws.RangeString
import Derived.Laws.RangeAny
import Derived.Shelf.Strings.Builder1
import Derived.Shelf.Strings.Builder2
import Derived.Shelf.Strings.OnBuilder
import Derived.Shelf.Small.Strs
import Derived.Shelf.Small.Wraps
import Derived.Shelf.Strings.BuilderF
import Derived.Shelf.Strings.BuilderK
import Derived.Shelf.Utf8.RuneCount
import Derived.Shelf.Strings.Builder2Cap
import Derived.Shelf.Strings.Search1
import Derived.Shelf.Strings.Search2
import Derived.Shelf.Strings.Search3
import Derived.Shelf.Strings.Cut
import Derived.Shelf.Strings.Count
import Derived.Shelf.LaysM
import Derived.Shelf.Strings.Shaped
import Derived.Shelf.Strings.Prefix
import Derived.Shelf.Strings.Split
import Derived.Shelf.Strings.SplitShaped
import Derived.Shelf.Unicode.Decode
import Derived.Shelf.Strings.RuneCount
import Derived.Shelf.Strings.Explode
import Derived.Shelf.Bits.Mul64
import Derived.Shelf.Strings.Repeat
import Derived.Shelf.Unicode.DecodeSlow
import Derived.Shelf.Unicode.DecodeAny
import Derived.Shelf.Strings.FieldsFuncAny
import Derived.Shelf.Strings.FieldsFuncGrows
import Derived.Shelf.Strings.BuilderCap
import Derived.Test.YtkpnfejfbmandaaDoorProg
import Derived.Deep.RegionHeld
import Derived.Deep.RegionWith
import Derived.WalkMore
import Derived.Shelf.Abstract
import Derived.Shelf.Vars
import Derived.Lib.LaidU8
import Derived.ProofKit
import Derived.SizedLaws
import Derived.Deep.DeepHandedRow
import Derived.Deep.DeepWitnessRowRef
import Derived.Test.YtkpnfejfbmandaaDoorCSM4
/- tmplpiperef17.one, opcodes 2, 4, 6. -/
namespace Go.Proofs.YtkpnfejfbmandaaDoor.Px
open Go.RowKit Go.Proofs.YtkpnfejfbmandaaDoorW.PrintWords Go.Proofs.YtkpnfejfbmandaaDoorW.PrintLast Go.Proofs.YtkpnfejfbmandaaDoorW.PrintMore
set_option linter.unusedVariables false
set_option linter.unusedSimpArgs false
set_option maxHeartbeats 4000000 in
set_option maxRecDepth 100000 in
theorem one.c2 : one.Con 2 := by
  intro x1 x2 x3 x4 x5 i many w hz
  obtain ⟨r, hr⟩ : ∃ r, r = checkI ⟨2, x1, x2, x3, x4, x5⟩ i many := ⟨_, rfl⟩
  rw [← hr]
  unfold checkI at hr
  rw [if_neg (by show ¬ ((2 : Int) < 0 ∨ (9 : Int) < 2); decide)] at hr
  cases hc : cleanB ⟨2, x1, x2, x3, x4, x5⟩
  case false =>
    rw [hc, if_pos rfl] at hr
    have hr2 := Aside0.mk hr
    clear hr
    replace hc := Aside0.mk hc
    go_enter Tryd.func41, Tryd.ntmps41
    go_wp2_with fail
    all_goals first
      | (exfalso; have hc2 := hc.out; simp_all [cleanB, fS, fP, fE, fT]; done)
      | (go_ret; exact ⟨by rw [hr2.out]; rfl, below_alloc (Below.refl _ _) _⟩)
  rw [hc, if_neg (by decide)] at hr
  obtain ⟨q1, q2, q3, q4, q5, q6⟩ := clean_facts hc
  dsimp only at q1 q2 q3 q4 q5 q6
  obtain rfl := q1 rfl
  obtain rfl := q3 rfl
  obtain rfl := q5 (by decide)
  have hsp := Aside0.mk (fun W => rsplit_any x2 hz W)
  have hem : e0.toList = [] := e0_list
  clear q1 q2 q3 q4 q5 q6
  replace hc := Aside0.mk hc
  cases hx2 : x2.toList.isEmpty
  all_goals
    cases hz0 : (x5 != 0)
    all_goals
      have hz1 := congrArg not hz0
      simp only [bne, Bool.not_not, Bool.not_true, Bool.not_false] at hz1
      cases hp : pathL x2.data.toList
      case false =>
        rw [hp, if_pos rfl] at hr
        rw [pathE_f hp] at hsp
        have hr2 := Aside0.mk hr
        clear hr
        go_enter Tryd.func41, Tryd.ntmps41
        go_wp2_with (go_at_call 64; refine (hsp.out _).mono ?_; rintro ee w3 ⟨v, rfl, HB3⟩; have hb3 := blk_below (blk_new w _) HB3; have n0 : w3.cell? ⟨w.heap.size, 0, none⟩ = some (.int .i64 2) := blk_cell hb3 0; have n4 : w3.cell? ⟨w.heap.size, 4, none⟩ = some (.int .i64 0) := blk_cell hb3 4; have n5 : w3.cell? ⟨w.heap.size, 5, none⟩ = some (.int .i64 x5) := blk_cell hb3 5; replace HB3 := Aside0.mk (below_step (below_alloc (Below.refl _ _) _) HB3); clear hb3)
        all_goals go_ret
        all_goals exact ⟨by rw [hr2.out]; rfl, HB3.out⟩
      case true =>
        rw [hp, if_neg (by decide)] at hr
        rw [pathE_t hp] at hsp
        unfold chk2 at hr
        dsimp only at hr
        have r1 : decide (0 ≤ x5) = !decide (x5 < 0) := by by_cases h : x5 < 0 <;> simp [h] <;> omega
        have r2 : decide (x5 < many) = !decide (many ≤ x5) := by by_cases h : many ≤ x5 <;> simp [h] <;> omega
        unfold insT at hr
        dsimp only at hr
        simp only [show ((2 : Int) == 2) = true from rfl, show ((2 : Int) == 3) = false from rfl, show ((2 : Int) == 4) = false from rfl, show ((2 : Int) == 5) = false from rfl, cond_true, cond_false] at hr
        have r3 : decide (i < x5) = !decide (x5 ≤ i) := by by_cases h : x5 ≤ i <;> simp [h] <;> omega
        rw [r1, r2, r3] at hr
        clear r1 r2 r3
        cases a4 : decide (x5 < 0)
        case false =>
          cases a5 : decide (many ≤ x5)
          case false =>
            cases a6 : decide (x5 ≤ i)
            case false =>
              rw [a4, a5, a6] at hr
              have hr2 := Aside0.mk hr
              clear hr
              go_enter Tryd.func41, Tryd.ntmps41
              go_wp2_with (go_at_call 64; refine (hsp.out _).mono ?_; rintro ee w3 ⟨v, rfl, HB3⟩; have hb3 := blk_below (blk_new w _) HB3; have n0 : w3.cell? ⟨w.heap.size, 0, none⟩ = some (.int .i64 2) := blk_cell hb3 0; have n4 : w3.cell? ⟨w.heap.size, 4, none⟩ = some (.int .i64 0) := blk_cell hb3 4; have n5 : w3.cell? ⟨w.heap.size, 5, none⟩ = some (.int .i64 x5) := blk_cell hb3 5; replace HB3 := Aside0.mk (below_step (below_alloc (Below.refl _ _) _) HB3); clear hb3)
              all_goals go_ret
              all_goals exact ⟨by rw [hr2.out]; rfl, HB3.out⟩
            case true =>
              rw [a4, a5, a6] at hr
              have hr2 := Aside0.mk hr
              clear hr
              go_enter Tryd.func41, Tryd.ntmps41
              go_wp2_with (go_at_call 64; refine (hsp.out _).mono ?_; rintro ee w3 ⟨v, rfl, HB3⟩; have hb3 := blk_below (blk_new w _) HB3; have n0 : w3.cell? ⟨w.heap.size, 0, none⟩ = some (.int .i64 2) := blk_cell hb3 0; have n4 : w3.cell? ⟨w.heap.size, 4, none⟩ = some (.int .i64 0) := blk_cell hb3 4; have n5 : w3.cell? ⟨w.heap.size, 5, none⟩ = some (.int .i64 x5) := blk_cell hb3 5; replace HB3 := Aside0.mk (below_step (below_alloc (Below.refl _ _) _) HB3); clear hb3)
              all_goals go_ret
              all_goals exact ⟨by rw [hr2.out]; rfl, HB3.out⟩
          case true =>
            rw [a4, a5] at hr
            have hr2 := Aside0.mk hr
            clear hr
            go_enter Tryd.func41, Tryd.ntmps41
            go_wp2_with (go_at_call 64; refine (hsp.out _).mono ?_; rintro ee w3 ⟨v, rfl, HB3⟩; have hb3 := blk_below (blk_new w _) HB3; have n0 : w3.cell? ⟨w.heap.size, 0, none⟩ = some (.int .i64 2) := blk_cell hb3 0; have n4 : w3.cell? ⟨w.heap.size, 4, none⟩ = some (.int .i64 0) := blk_cell hb3 4; have n5 : w3.cell? ⟨w.heap.size, 5, none⟩ = some (.int .i64 x5) := blk_cell hb3 5; replace HB3 := Aside0.mk (below_step (below_alloc (Below.refl _ _) _) HB3); clear hb3)
            all_goals go_ret
            all_goals exact ⟨by rw [hr2.out]; rfl, HB3.out⟩
        case true =>
          rw [a4] at hr
          have hr2 := Aside0.mk hr
          clear hr
          go_enter Tryd.func41, Tryd.ntmps41
          go_wp2_with (go_at_call 64; refine (hsp.out _).mono ?_; rintro ee w3 ⟨v, rfl, HB3⟩; have hb3 := blk_below (blk_new w _) HB3; have n0 : w3.cell? ⟨w.heap.size, 0, none⟩ = some (.int .i64 2) := blk_cell hb3 0; have n4 : w3.cell? ⟨w.heap.size, 4, none⟩ = some (.int .i64 0) := blk_cell hb3 4; have n5 : w3.cell? ⟨w.heap.size, 5, none⟩ = some (.int .i64 x5) := blk_cell hb3 5; replace HB3 := Aside0.mk (below_step (below_alloc (Below.refl _ _) _) HB3); clear hb3)
          all_goals go_ret
          all_goals exact ⟨by rw [hr2.out]; rfl, HB3.out⟩
set_option maxHeartbeats 4000000 in
set_option maxRecDepth 100000 in
theorem one.c4 : one.Con 4 := by
  intro x1 x2 x3 x4 x5 i many w hz
  obtain ⟨r, hr⟩ : ∃ r, r = checkI ⟨4, x1, x2, x3, x4, x5⟩ i many := ⟨_, rfl⟩
  rw [← hr]
  unfold checkI at hr
  rw [if_neg (by show ¬ ((4 : Int) < 0 ∨ (9 : Int) < 4); decide)] at hr
  cases hc : cleanB ⟨4, x1, x2, x3, x4, x5⟩
  case false =>
    rw [hc, if_pos rfl] at hr
    have hr2 := Aside0.mk hr
    clear hr
    replace hc := Aside0.mk hc
    go_enter Tryd.func41, Tryd.ntmps41
    go_wp2_with fail
    all_goals first
      | (exfalso; have hc2 := hc.out; simp_all [cleanB, fS, fP, fE, fT]; done)
      | (go_ret; exact ⟨by rw [hr2.out]; rfl, below_alloc (Below.refl _ _) _⟩)
  rw [hc, if_neg (by decide)] at hr
  obtain ⟨q1, q2, q3, q4, q5, q6⟩ := clean_facts hc
  dsimp only at q1 q2 q3 q4 q5 q6
  obtain rfl := q1 rfl
  obtain rfl := q3 rfl
  obtain rfl := q5 (by decide)
  have hsp := Aside0.mk (fun W => rsplit_any x2 hz W)
  have hem : e0.toList = [] := e0_list
  clear q1 q2 q3 q4 q5 q6
  replace hc := Aside0.mk hc
  cases hx2 : x2.toList.isEmpty
  all_goals
    cases hz0 : (x5 != 0)
    all_goals
      have hz1 := congrArg not hz0
      simp only [bne, Bool.not_not, Bool.not_true, Bool.not_false] at hz1
      cases hp : pathL x2.data.toList
      case false =>
        rw [hp, if_pos rfl] at hr
        rw [pathE_f hp] at hsp
        have hr2 := Aside0.mk hr
        clear hr
        go_enter Tryd.func41, Tryd.ntmps41
        go_wp2_with (go_at_call 64; refine (hsp.out _).mono ?_; rintro ee w3 ⟨v, rfl, HB3⟩; have hb3 := blk_below (blk_new w _) HB3; have n0 : w3.cell? ⟨w.heap.size, 0, none⟩ = some (.int .i64 4) := blk_cell hb3 0; have n4 : w3.cell? ⟨w.heap.size, 4, none⟩ = some (.int .i64 0) := blk_cell hb3 4; have n5 : w3.cell? ⟨w.heap.size, 5, none⟩ = some (.int .i64 x5) := blk_cell hb3 5; replace HB3 := Aside0.mk (below_step (below_alloc (Below.refl _ _) _) HB3); clear hb3)
        all_goals go_ret
        all_goals exact ⟨by rw [hr2.out]; rfl, HB3.out⟩
      case true =>
        rw [hp, if_neg (by decide)] at hr
        rw [pathE_t hp] at hsp
        unfold chk2 at hr
        dsimp only at hr
        have r1 : decide (0 ≤ x5) = !decide (x5 < 0) := by by_cases h : x5 < 0 <;> simp [h] <;> omega
        have r2 : decide (x5 < many) = !decide (many ≤ x5) := by by_cases h : many ≤ x5 <;> simp [h] <;> omega
        unfold insT at hr
        dsimp only at hr
        simp only [show ((4 : Int) == 2) = false from rfl, show ((4 : Int) == 3) = false from rfl, show ((4 : Int) == 4) = true from rfl, show ((4 : Int) == 5) = false from rfl, cond_true, cond_false] at hr
        have r3 : decide (i < x5) = !decide (x5 ≤ i) := by by_cases h : x5 ≤ i <;> simp [h] <;> omega
        rw [r1, r2, r3] at hr
        clear r1 r2 r3
        cases a4 : decide (x5 < 0)
        case false =>
          cases a5 : decide (many ≤ x5)
          case false =>
            cases a6 : decide (x5 ≤ i)
            case false =>
              rw [a4, a5, a6] at hr
              have hr2 := Aside0.mk hr
              clear hr
              go_enter Tryd.func41, Tryd.ntmps41
              go_wp2_with (go_at_call 64; refine (hsp.out _).mono ?_; rintro ee w3 ⟨v, rfl, HB3⟩; have hb3 := blk_below (blk_new w _) HB3; have n0 : w3.cell? ⟨w.heap.size, 0, none⟩ = some (.int .i64 4) := blk_cell hb3 0; have n4 : w3.cell? ⟨w.heap.size, 4, none⟩ = some (.int .i64 0) := blk_cell hb3 4; have n5 : w3.cell? ⟨w.heap.size, 5, none⟩ = some (.int .i64 x5) := blk_cell hb3 5; replace HB3 := Aside0.mk (below_step (below_alloc (Below.refl _ _) _) HB3); clear hb3)
              all_goals go_ret
              all_goals exact ⟨by rw [hr2.out]; rfl, HB3.out⟩
            case true =>
              rw [a4, a5, a6] at hr
              have hr2 := Aside0.mk hr
              clear hr
              go_enter Tryd.func41, Tryd.ntmps41
              go_wp2_with (go_at_call 64; refine (hsp.out _).mono ?_; rintro ee w3 ⟨v, rfl, HB3⟩; have hb3 := blk_below (blk_new w _) HB3; have n0 : w3.cell? ⟨w.heap.size, 0, none⟩ = some (.int .i64 4) := blk_cell hb3 0; have n4 : w3.cell? ⟨w.heap.size, 4, none⟩ = some (.int .i64 0) := blk_cell hb3 4; have n5 : w3.cell? ⟨w.heap.size, 5, none⟩ = some (.int .i64 x5) := blk_cell hb3 5; replace HB3 := Aside0.mk (below_step (below_alloc (Below.refl _ _) _) HB3); clear hb3)
              all_goals go_ret
              all_goals exact ⟨by rw [hr2.out]; rfl, HB3.out⟩
          case true =>
            rw [a4, a5] at hr
            have hr2 := Aside0.mk hr
            clear hr
            go_enter Tryd.func41, Tryd.ntmps41
            go_wp2_with (go_at_call 64; refine (hsp.out _).mono ?_; rintro ee w3 ⟨v, rfl, HB3⟩; have hb3 := blk_below (blk_new w _) HB3; have n0 : w3.cell? ⟨w.heap.size, 0, none⟩ = some (.int .i64 4) := blk_cell hb3 0; have n4 : w3.cell? ⟨w.heap.size, 4, none⟩ = some (.int .i64 0) := blk_cell hb3 4; have n5 : w3.cell? ⟨w.heap.size, 5, none⟩ = some (.int .i64 x5) := blk_cell hb3 5; replace HB3 := Aside0.mk (below_step (below_alloc (Below.refl _ _) _) HB3); clear hb3)
            all_goals go_ret
            all_goals exact ⟨by rw [hr2.out]; rfl, HB3.out⟩
        case true =>
          rw [a4] at hr
          have hr2 := Aside0.mk hr
          clear hr
          go_enter Tryd.func41, Tryd.ntmps41
          go_wp2_with (go_at_call 64; refine (hsp.out _).mono ?_; rintro ee w3 ⟨v, rfl, HB3⟩; have hb3 := blk_below (blk_new w _) HB3; have n0 : w3.cell? ⟨w.heap.size, 0, none⟩ = some (.int .i64 4) := blk_cell hb3 0; have n4 : w3.cell? ⟨w.heap.size, 4, none⟩ = some (.int .i64 0) := blk_cell hb3 4; have n5 : w3.cell? ⟨w.heap.size, 5, none⟩ = some (.int .i64 x5) := blk_cell hb3 5; replace HB3 := Aside0.mk (below_step (below_alloc (Below.refl _ _) _) HB3); clear hb3)
          all_goals go_ret
          all_goals exact ⟨by rw [hr2.out]; rfl, HB3.out⟩
set_option maxHeartbeats 4000000 in
set_option maxRecDepth 100000 in
theorem one.c6 : one.Con 6 := by
  intro x1 x2 x3 x4 x5 i many w hz
  obtain ⟨r, hr⟩ : ∃ r, r = checkI ⟨6, x1, x2, x3, x4, x5⟩ i many := ⟨_, rfl⟩
  rw [← hr]
  unfold checkI at hr
  rw [if_neg (by show ¬ ((6 : Int) < 0 ∨ (9 : Int) < 6); decide)] at hr
  cases hc : cleanB ⟨6, x1, x2, x3, x4, x5⟩
  case false =>
    rw [hc, if_pos rfl] at hr
    have hr2 := Aside0.mk hr
    clear hr
    replace hc := Aside0.mk hc
    go_enter Tryd.func41, Tryd.ntmps41
    go_wp2_with fail
    all_goals first
      | (exfalso; have hc2 := hc.out; simp_all [cleanB, fS, fP, fE, fT]; done)
      | (go_ret; exact ⟨by rw [hr2.out]; rfl, below_alloc (Below.refl _ _) _⟩)
  rw [hc, if_neg (by decide)] at hr
  obtain ⟨q1, q2, q3, q4, q5, q6⟩ := clean_facts hc
  dsimp only at q1 q2 q3 q4 q5 q6
  obtain rfl := q1 rfl
  obtain rfl := q3 rfl
  have hsp := Aside0.mk (fun W => rsplit_any x2 hz W)
  have hem : e0.toList = [] := e0_list
  clear q1 q2 q3 q4 q5
  replace hc := Aside0.mk hc
  rcases q6 rfl with rfl | rfl
  all_goals clear q6
  · cases hz0 : (x5 != 0)
    all_goals
      have hz1 := congrArg not hz0
      simp only [bne, Bool.not_not, Bool.not_true, Bool.not_false] at hz1
      cases hp : pathL x2.data.toList
      case false =>
        rw [hp, if_pos rfl] at hr
        rw [pathE_f hp] at hsp
        have hr2 := Aside0.mk hr
        clear hr
        go_enter Tryd.func41, Tryd.ntmps41
        go_wp2_with (go_at_call 64; refine (hsp.out _).mono ?_; rintro ee w3 ⟨v, rfl, HB3⟩; have hb3 := blk_below (blk_new w _) HB3; have n0 : w3.cell? ⟨w.heap.size, 0, none⟩ = some (.int .i64 6) := blk_cell hb3 0; have n4 : w3.cell? ⟨w.heap.size, 4, none⟩ = some (.int .i64 0) := blk_cell hb3 4; have n5 : w3.cell? ⟨w.heap.size, 5, none⟩ = some (.int .i64 x5) := blk_cell hb3 5; replace HB3 := Aside0.mk (below_step (below_alloc (Below.refl _ _) _) HB3); clear hb3)
        all_goals go_ret
        all_goals exact ⟨by rw [hr2.out]; rfl, HB3.out⟩
      case true =>
        rw [hp, if_neg (by decide)] at hr
        rw [pathE_t hp] at hsp
        unfold chk2 at hr
        dsimp only at hr
        have r1 : decide (0 ≤ x5) = !decide (x5 < 0) := by by_cases h : x5 < 0 <;> simp [h] <;> omega
        have r2 : decide (x5 < many) = !decide (many ≤ x5) := by by_cases h : many ≤ x5 <;> simp [h] <;> omega
        unfold insT at hr
        dsimp only at hr
        simp only [show ((6 : Int) == 2) = false from rfl, show ((6 : Int) == 3) = false from rfl, show ((6 : Int) == 4) = false from rfl, show ((6 : Int) == 5) = false from rfl, cond_true, cond_false] at hr
        rw [r1, r2] at hr
        clear r1 r2
        cases a4 : decide (x5 < 0)
        case false =>
          cases a5 : decide (many ≤ x5)
          case false =>
            rw [a4, a5] at hr
            have hr2 := Aside0.mk hr
            clear hr
            go_enter Tryd.func41, Tryd.ntmps41
            go_wp2_with (go_at_call 64; refine (hsp.out _).mono ?_; rintro ee w3 ⟨v, rfl, HB3⟩; have hb3 := blk_below (blk_new w _) HB3; have n0 : w3.cell? ⟨w.heap.size, 0, none⟩ = some (.int .i64 6) := blk_cell hb3 0; have n4 : w3.cell? ⟨w.heap.size, 4, none⟩ = some (.int .i64 0) := blk_cell hb3 4; have n5 : w3.cell? ⟨w.heap.size, 5, none⟩ = some (.int .i64 x5) := blk_cell hb3 5; replace HB3 := Aside0.mk (below_step (below_alloc (Below.refl _ _) _) HB3); clear hb3)
            all_goals go_ret
            all_goals exact ⟨by rw [hr2.out]; rfl, HB3.out⟩
          case true =>
            rw [a4, a5] at hr
            have hr2 := Aside0.mk hr
            clear hr
            go_enter Tryd.func41, Tryd.ntmps41
            go_wp2_with (go_at_call 64; refine (hsp.out _).mono ?_; rintro ee w3 ⟨v, rfl, HB3⟩; have hb3 := blk_below (blk_new w _) HB3; have n0 : w3.cell? ⟨w.heap.size, 0, none⟩ = some (.int .i64 6) := blk_cell hb3 0; have n4 : w3.cell? ⟨w.heap.size, 4, none⟩ = some (.int .i64 0) := blk_cell hb3 4; have n5 : w3.cell? ⟨w.heap.size, 5, none⟩ = some (.int .i64 x5) := blk_cell hb3 5; replace HB3 := Aside0.mk (below_step (below_alloc (Below.refl _ _) _) HB3); clear hb3)
            all_goals go_ret
            all_goals exact ⟨by rw [hr2.out]; rfl, HB3.out⟩
        case true =>
          rw [a4] at hr
          have hr2 := Aside0.mk hr
          clear hr
          go_enter Tryd.func41, Tryd.ntmps41
          go_wp2_with (go_at_call 64; refine (hsp.out _).mono ?_; rintro ee w3 ⟨v, rfl, HB3⟩; have hb3 := blk_below (blk_new w _) HB3; have n0 : w3.cell? ⟨w.heap.size, 0, none⟩ = some (.int .i64 6) := blk_cell hb3 0; have n4 : w3.cell? ⟨w.heap.size, 4, none⟩ = some (.int .i64 0) := blk_cell hb3 4; have n5 : w3.cell? ⟨w.heap.size, 5, none⟩ = some (.int .i64 x5) := blk_cell hb3 5; replace HB3 := Aside0.mk (below_step (below_alloc (Below.refl _ _) _) HB3); clear hb3)
          all_goals go_ret
          all_goals exact ⟨by rw [hr2.out]; rfl, HB3.out⟩
  · cases hz0 : (x5 != 0)
    all_goals
      have hz1 := congrArg not hz0
      simp only [bne, Bool.not_not, Bool.not_true, Bool.not_false] at hz1
      rw [if_neg (by show ¬ pathL e0.data.toList = false; rw [e0_path]; decide)] at hr
      rw [pathE_t e0_path] at hsp
      unfold chk2 at hr
      dsimp only at hr
      have r1 : decide (0 ≤ x5) = !decide (x5 < 0) := by by_cases h : x5 < 0 <;> simp [h] <;> omega
      have r2 : decide (x5 < many) = !decide (many ≤ x5) := by by_cases h : many ≤ x5 <;> simp [h] <;> omega
      unfold insT at hr
      dsimp only at hr
      simp only [show ((6 : Int) == 2) = false from rfl, show ((6 : Int) == 3) = false from rfl, show ((6 : Int) == 4) = false from rfl, show ((6 : Int) == 5) = false from rfl, cond_true, cond_false] at hr
      rw [r1, r2] at hr
      clear r1 r2
      cases a4 : decide (x5 < 0)
      case false =>
        cases a5 : decide (many ≤ x5)
        case false =>
          rw [a4, a5] at hr
          have hr2 := Aside0.mk hr
          clear hr
          go_enter Tryd.func41, Tryd.ntmps41
          go_wp2_with (go_at_call 64; refine (hsp.out _).mono ?_; rintro ee w3 ⟨v, rfl, HB3⟩; have hb3 := blk_below (blk_new w _) HB3; have n0 : w3.cell? ⟨w.heap.size, 0, none⟩ = some (.int .i64 6) := blk_cell hb3 0; have n4 : w3.cell? ⟨w.heap.size, 4, none⟩ = some (.int .i64 0) := blk_cell hb3 4; have n5 : w3.cell? ⟨w.heap.size, 5, none⟩ = some (.int .i64 x5) := blk_cell hb3 5; replace HB3 := Aside0.mk (below_step (below_alloc (Below.refl _ _) _) HB3); clear hb3)
          all_goals go_ret
          all_goals exact ⟨by rw [hr2.out]; rfl, HB3.out⟩
        case true =>
          rw [a4, a5] at hr
          have hr2 := Aside0.mk hr
          clear hr
          go_enter Tryd.func41, Tryd.ntmps41
          go_wp2_with (go_at_call 64; refine (hsp.out _).mono ?_; rintro ee w3 ⟨v, rfl, HB3⟩; have hb3 := blk_below (blk_new w _) HB3; have n0 : w3.cell? ⟨w.heap.size, 0, none⟩ = some (.int .i64 6) := blk_cell hb3 0; have n4 : w3.cell? ⟨w.heap.size, 4, none⟩ = some (.int .i64 0) := blk_cell hb3 4; have n5 : w3.cell? ⟨w.heap.size, 5, none⟩ = some (.int .i64 x5) := blk_cell hb3 5; replace HB3 := Aside0.mk (below_step (below_alloc (Below.refl _ _) _) HB3); clear hb3)
          all_goals go_ret
          all_goals exact ⟨by rw [hr2.out]; rfl, HB3.out⟩
      case true =>
        rw [a4] at hr
        have hr2 := Aside0.mk hr
        clear hr
        go_enter Tryd.func41, Tryd.ntmps41
        go_wp2_with (go_at_call 64; refine (hsp.out _).mono ?_; rintro ee w3 ⟨v, rfl, HB3⟩; have hb3 := blk_below (blk_new w _) HB3; have n0 : w3.cell? ⟨w.heap.size, 0, none⟩ = some (.int .i64 6) := blk_cell hb3 0; have n4 : w3.cell? ⟨w.heap.size, 4, none⟩ = some (.int .i64 0) := blk_cell hb3 4; have n5 : w3.cell? ⟨w.heap.size, 5, none⟩ = some (.int .i64 x5) := blk_cell hb3 5; replace HB3 := Aside0.mk (below_step (below_alloc (Below.refl _ _) _) HB3); clear hb3)
        all_goals go_ret
        all_goals exact ⟨by rw [hr2.out]; rfl, HB3.out⟩
end Go.Proofs.YtkpnfejfbmandaaDoor.Px
namespace Go.Proofs.YtkpnfejfbmandaaDoor.Px
open Go.RowKit Go.Proofs.YtkpnfejfbmandaaDoorW.PrintWords Go.Proofs.YtkpnfejfbmandaaDoorW.PrintLast Go.Proofs.YtkpnfejfbmandaaDoorW.PrintMore
set_option linter.unusedVariables false
set_option linter.unusedSimpArgs false
set_option maxHeartbeats 4000000 in
set_option maxRecDepth 100000 in
theorem one_out (x : S40) (i many : Int) (w : World) (hk : x.f0 < 0 ∨ 9 < x.f0) :
    Calls Tryd.prog 41 #[.agg #[.int .i64 x.f0, .string x.f1, .string x.f2, .bool x.f3, .int .i64 x.f4, .int .i64 x.f5], .int .i64 i, .int .i64 many] w fun e w' => e = .returned (.int .i64 5) ∧ Below w.heap.size w w' := by
  rcases hk with hk | hk
  · have h1 : decide (x.f0 < 0) = true := decide_eq_true hk
    go_enter Tryd.func41, Tryd.ntmps41
    go_wp2
    go_ret
    exact ⟨rfl, below_alloc (Below.refl _ _) _⟩
  · have h1 : decide (x.f0 < 0) = false := decide_eq_false (by omega)
    have h2 : decide (9 < x.f0) = true := decide_eq_true (by omega)
    go_enter Tryd.func41, Tryd.ntmps41
    go_wp2
    go_ret
    exact ⟨rfl, below_alloc (Below.refl _ _) _⟩
theorem one_any (x : S40) (i many : Int) (w : World) (hz : x.f2.size ≤ 65536) :
    Calls Tryd.prog 41 #[.agg #[.int .i64 x.f0, .string x.f1, .string x.f2, .bool x.f3, .int .i64 x.f4, .int .i64 x.f5], .int .i64 i, .int .i64 many] w fun e w' => e = .returned (.int .i64 (checkI x i many)) ∧ Below w.heap.size w w' := by
  by_cases hk : x.f0 < 0 ∨ 9 < x.f0
  · have h : checkI x i many = 5 := by unfold checkI; rw [if_pos hk]
    rw [h]
    exact one_out x i many w hk
  · obtain ⟨k, x1, x2, x3, x4, x5⟩ := x
    dsimp only at hk hz ⊢
    obtain rfl | rfl | rfl | rfl | rfl | rfl | rfl | rfl | rfl | rfl : k = 0 ∨ k = 1 ∨ k = 2 ∨ k = 3 ∨ k = 4 ∨ k = 5 ∨ k = 6 ∨ k = 7 ∨ k = 8 ∨ k = 9 := by omega
    · exact one.c0 x1 x2 x3 x4 x5 i many w hz
    · exact one.c1 x1 x2 x3 x4 x5 i many w hz
    · exact one.c2 x1 x2 x3 x4 x5 i many w hz
    · exact one.c3 x1 x2 x3 x4 x5 i many w hz
    · exact one.c4 x1 x2 x3 x4 x5 i many w hz
    · exact one.c5 x1 x2 x3 x4 x5 i many w hz
    · exact one.c6 x1 x2 x3 x4 x5 i many w hz
    · exact one.c7 x1 x2 x3 x4 x5 i many w hz
    · exact one.c8 x1 x2 x3 x4 x5 i many w hz
    · exact one.c9 x1 x2 x3 x4 x5 i many w hz
set_option maxHeartbeats 4000000 in
set_option maxRecDepth 100000 in
theorem rchecks_any (C : List S40) (A : Option Addr) (c : Nat) (w : World) (hC : Kd.C k40 w A C.length C) (hz : ∀ x ∈ C, x.f2.size ≤ 65536) :
    Calls Tryd.prog 19 #[.slice A C.length c] w fun e w' => e = .returned (.tuple #[.int .i64 (chkF C).1, .int .i64 (chkF C).2]) ∧ Below w.heap.size w w' := by
  have hC63 : C.length ≤ 9223372036854775807 := hC.2.1
  obtain ⟨r, hr⟩ : ∃ r, r = chkF C := ⟨_, rfl⟩
  rw [← hr]
  unfold chkF at hr
  by_cases hl : 65536 < C.length
  · rw [if_pos hl] at hr
    subst hr
    have h1 : decide ((65536 : Int) < (C.length : Int)) = true := decide_eq_true (by omega)
    go_enter Tryd.func19, Tryd.ntmps19
    go_wp2
    go_ret2
    exact ⟨rfl, Below.refl _ _⟩
  rw [if_neg hl] at hr
  have h1 : decide ((65536 : Int) < (C.length : Int)) = false := decide_eq_false (by omega)
  generalize hR : chkL C.length C 0 = R at hr
  replace hC := Aside0.mk hC
  replace hr := Aside0.mk hr
  replace hR := Aside0.mk hR
  replace hz := Aside0.mk hz
  go_enter Tryd.func19, Tryd.ntmps19
  go_wp2
  go_loopg [5] C.length (fun kq v5 wr => ∃ i : Nat, kq + i = C.length ∧ v5 = .int .i64 i ∧ Aside0 (chkL C.length (C.drop i) i = R) ∧ Aside0 (Below w.heap.size w wr))
  case atStart => exact ⟨0, rfl, rfl, by rw [List.drop_zero]; exact hR, ⟨Below.refl _ _⟩⟩
  case round =>
    clear hR
    obtain ⟨i, hki, rfl, HE, HB⟩ := hrel
    by_cases hlt2 : i < C.length
    · have hll : decide ((i : Int) < (C.length : Int)) = true := decide_eq_true (by omega)
      have hx := List.getElem?_eq_getElem hlt2
      have hd : C.drop i = C[i] :: C.drop (i + 1) := List.drop_eq_getElem_cons hlt2
      obtain ⟨ad, hA, x0, x1, x2, x3, x4, x5⟩ := at_T40 hC.out (i : Int) (by omega) (by omega)
      have hrd : rd_T40 C (i : Int) = C[i] := by unfold rd_T40; simp [List.getD, hlt2]
      simp only [Int.toNat_natCast] at x0 x1 x2 x3 x4 x5
      rw [hrd] at x0 x1 x2 x3 x4 x5
      have hE := HE.out
      rw [hd, chkL] at hE
      have hzx := hz.out _ (List.getElem_mem hlt2)
      have up : ∀ {a : Addr} {u : Value}, w.cell? a = some u → wr.cell? a = some u := fun h => (HB.out.cell (World.block_lt_of_cell? _ _ h)).trans h
      subst hA
      have hab := World.block_lt_of_cell? _ _ (up x0)
      replace x0 := up x0
      replace x1 := up x1
      replace x2 := up x2
      replace x3 := up x3
      replace x4 := up x4
      replace x5 := up x5
      clear up hrd hd hx HE
      generalize C[i] = x at *
      have hck := Aside0.mk (fun W => one_any x i C.length W hzx)
      by_cases h0 : checkI x i C.length = 0
      · rw [if_pos h0] at hE
        rw [h0] at hck
        replace hE := Aside0.mk hE
        replace h0 := Aside0.mk h0
        go_wp2_with (go_at_call 41; refine (hck.out _).mono ?_; rintro e w3 ⟨rfl, HB3⟩; replace HB3 := Aside0.mk (below_step HB.out HB3); clear hck)
        go_roundg (gk - 1)
        case measure => omega
        case rel => exact ⟨i + 1, by omega, by simp, hE, HB3⟩
      · rw [if_neg h0] at hE
        have hr2 := hr.out
        rw [← hE] at hr2
        dsimp only at hr2
        have h0' : (checkI x i C.length != 0) = true := by simp [h0]
        replace hE := Aside0.mk hE
        replace h0 := Aside0.mk h0
        replace hr2 := Aside0.mk hr2
        go_wp2_with (go_at_call 41; refine (hck.out _).mono ?_; rintro e w3 ⟨rfl, HB3⟩; replace HB3 := Aside0.mk (below_step HB.out HB3); clear hck)
        go_ret2
        rw [hr2.out]
        exact ⟨rfl, HB3.out⟩
    · have hll : decide ((i : Int) < (C.length : Int)) = false := decide_eq_false (by omega)
      have hE := HE.out
      rw [List.drop_eq_nil_of_le (by omega), chkL] at hE
      have hr2 := hr.out
      rw [← hE] at hr2
      dsimp only at hr2
      replace hE := Aside0.mk hE
      clear HE
      by_cases hn : C = []
      · subst hn
        rw [show lastOk [] = false from rfl, if_neg (by decide)] at hr2
        replace hr2 := Aside0.mk hr2
        go_wp2
        go_ret2
        rw [hr2.out]
        exact ⟨rfl, HB.out⟩
      · have hpos : 0 < C.length := List.length_pos_iff.2 hn
        obtain ⟨m, hm⟩ : ∃ m, C.length = m + 1 := ⟨C.length - 1, by omega⟩
        obtain ⟨ad, hA, x0, -⟩ := at_T40 hC.out (m : Int) (by omega) (by omega)
        have hlast : C.getLast? = some (rd_T40 C (m : Int)) := by
          rw [List.getLast?_eq_getElem?, hm, Nat.add_sub_cancel]
          unfold rd_T40
          simp [List.getD, hm]
        have hlo : lastOk C = ((rd_T40 C (m : Int)).f0 == 9 || (rd_T40 C (m : Int)).f0 == 7) := by unfold lastOk; rw [hlast]
        rw [hlo] at hr2
        simp only [Int.toNat_natCast] at x0
        generalize (rd_T40 C (m : Int)).f0 = op at *
        subst hA
        replace x0 := (HB.out.cell (World.block_lt_of_cell? _ _ x0)).trans x0
        have hab := World.block_lt_of_cell? _ _ x0
        have hz0 : ((C.length : Int) == 0) = false := by simp; omega
        have hw1 : IntKind.i64.wrap ((C.length : Int) - 1) = (m : Int) := by rw [IntKind.wrap_i64]; omega
        have hm0 : (0 : Int) ≤ (m : Int) := Int.natCast_nonneg m
        have hm1 : (m : Int) < (C.length : Int) := by omega
        replace hm := Aside0.mk hm
        clear hlast hlo
        by_cases o9 : op = 9
        · subst o9
          rw [if_pos (by decide)] at hr2
          replace hr2 := Aside0.mk hr2
          go_wp2
          go_ret2
          rw [hr2.out]
          exact ⟨rfl, HB.out⟩
        by_cases o7 : op = 7
        · subst o7
          rw [if_pos (by decide)] at hr2
          replace hr2 := Aside0.mk hr2
          go_wp2
          go_ret2
          rw [hr2.out]
          exact ⟨rfl, HB.out⟩
        rw [if_neg (by simp [o9, o7])] at hr2
        have o9' : (op != 9) = true := by simp [o9]
        have o7' : (op != 7) = true := by simp [o7]
        replace hr2 := Aside0.mk hr2
        replace o9 := Aside0.mk o9
        replace o7 := Aside0.mk o7
        go_wp2
        go_ret2
        rw [hr2.out]
        exact ⟨rfl, HB.out⟩
end Go.Proofs.YtkpnfejfbmandaaDoor.Px
namespace Go.Proofs.YtkpnfejfbmandaaDoor.Px
open Go.ChangeShapes Go.WideShapes Go.ChangeAt Go.RowKit
set_option linter.unusedVariables false
set_option linter.unusedSimpArgs false
theorem cells133 : Tryd.prog.cellsOf 133 = 4 := by kernel_rfl
theorem nameForms : Tryd.prog.globalNamed "tmplpipe/compile.forms" = some 0 := by kernel_rfl
theorem typeForms : (Tryd.prog.globals[0]?).map (·.type) = some 134 := by kernel_rfl
set_option maxRecDepth 100000 in
theorem form_cells {w : World} {fuel : Nat} {cs : List Value} {a b c d : Bool} {p : List MemPlace}
    (h : DataW.trod (fun _ => ()) Tryd.prog w 0 (fun _ => true) false fuel 133 cs = some (.agg [.lit (.bool a), .lit (.bool b), .lit (.bool c), .lit (.bool d)], p)) : cs = [.bool a, .bool b, .bool c, .bool d] := by
  obtain ⟨xs, n, rfl, hx, hl, hxl, hall⟩ := DataW.trod_struct Tryd.underlying133 h
  rw [cells133] at hl
  have h0 : DataW.trod (fun _ => ()) Tryd.prog w 0 (fun _ => true) false n 4 ((cs.drop 0).take (Tryd.prog.cellsOf 4)) = xs[0]? := hall 0 _ rfl
  have h1 : DataW.trod (fun _ => ()) Tryd.prog w 0 (fun _ => true) false n 4 ((cs.drop 1).take (Tryd.prog.cellsOf 4)) = xs[1]? := hall 1 _ rfl
  have h2 : DataW.trod (fun _ => ()) Tryd.prog w 0 (fun _ => true) false n 4 ((cs.drop 2).take (Tryd.prog.cellsOf 4)) = xs[2]? := hall 2 _ rfl
  have h3 : DataW.trod (fun _ => ()) Tryd.prog w 0 (fun _ => true) false n 4 ((cs.drop 3).take (Tryd.prog.cellsOf 4)) = xs[3]? := hall 3 _ rfl
  match cs, hl with
  | [c0, c1, c2, c3], _ =>
    match xs, hxl with
    | [x0, x1, x2, x3], _ =>
      simp only [Prod.mk.injEq, List.map_cons, List.map_nil, DataW.agg.injEq, List.cons.injEq, and_true] at hx
      obtain ⟨⟨e0, e1, e2, e3⟩, _⟩ := hx
      rw [cells4] at h0 h1 h2 h3
      obtain ⟨b0, g0, q0⟩ := DataW.trod_bool Tryd.underlying4 (x := x0) h0
      obtain ⟨b1, g1, q1⟩ := DataW.trod_bool Tryd.underlying4 (x := x1) h1
      obtain ⟨b2, g2, q2⟩ := DataW.trod_bool Tryd.underlying4 (x := x2) h2
      obtain ⟨b3, g3, q3⟩ := DataW.trod_bool Tryd.underlying4 (x := x3) h3
      rw [q0] at e0
      rw [q1] at e1
      rw [q2] at e2
      rw [q3] at e3
      simp only [DataW.lit.injEq, Lit.bool.injEq] at e0 e1 e2 e3
      simp at g0 g1 g2 g3
      rw [g0, g1, g2, g3, e0, e1, e2, e3]
theorem form_at {W : World} (h : Lib.VarReads Tryd.prog W "tmplpipe/compile.forms" Rows.laid_tmplpipe_compile_forms) (i : Nat) (hi : i < 10) (a b c d : Bool)
    (hd : ∀ ds, (Rows.laid_tmplpipe_compile_forms : DataW Unit) = .agg ds → ds[i]? = some (.agg [.lit (.bool a), .lit (.bool b), .lit (.bool c), .lit (.bool d)])) :
    W.cell? ⟨0, i * 4, none⟩ = some (.bool a) ∧ W.cell? ⟨0, i * 4 + 1, none⟩ = some (.bool b) ∧ W.cell? ⟨0, i * 4 + 2, none⟩ = some (.bool c) ∧ W.cell? ⟨0, i * 4 + 3, none⟩ = some (.bool d) := by
  obtain ⟨g, t, cs, fuel, p, hg, hty, hvar, htr⟩ := h
  obtain rfl := Option.some.inj (nameForms.symm.trans hg)
  obtain rfl := Option.some.inj (typeForms.symm.trans hty)
  obtain ⟨fuel', dd, q, hdi, he⟩ := Lib.array_elem Tryd.underlying134 htr i hi
  have h1 := hd _ rfl
  obtain rfl := Option.some.inj (hdi.symm.trans h1)
  have hc := form_cells he
  rw [cells133] at hc
  have e0 := congrArg (·[0]?) hc
  have e1 := congrArg (·[1]?) hc
  have e2 := congrArg (·[2]?) hc
  have e3 := congrArg (·[3]?) hc
  simp only [List.getElem?_take, List.getElem?_drop] at e0 e1 e2 e3
  refine ⟨?_, ?_, ?_, ?_⟩
  · rw [World.var?_cell nameForms hvar (i * 4), ← Array.getElem?_toList]; simpa using e0
  · rw [World.var?_cell nameForms hvar (i * 4 + 1), ← Array.getElem?_toList]; simpa using e1
  · rw [World.var?_cell nameForms hvar (i * 4 + 2), ← Array.getElem?_toList]; simpa using e2
  · rw [World.var?_cell nameForms hvar (i * 4 + 3), ← Array.getElem?_toList]; simpa using e3
abbrev laidAllF : List (String × DataW Unit) := [("unicode/utf8.acceptRanges", Rows.laid_unicode_utf8_acceptRanges), ("tmplpipe/lex.shapes", Rows.laid_tmplpipe_lex_shapes), ("tmplpipe/compile.forms", Rows.laid_tmplpipe_compile_forms), ("unicode/utf8.first", Rows.laid_unicode_utf8_first)]
structure GF (w : World) : Prop where
  g : GS w
  f : Forms w
theorem GF.below {w w1 : World} (h : GF w) (hb : Below w.heap.size w w1) : GF w1 := ⟨h.g.below hb, h.f.below hb⟩
theorem gf_of {W : World} (hL : laidMetH Tryd.prog laidAllF W) (hS : W.ShapedOpen Tryd.prog) : GF W := by
  have hV := Lib.laidMet.reads (n := "tmplpipe/lex.shapes") hL (.tail _ (.head _))
  have hF := Lib.laidMet.reads (n := "tmplpipe/compile.forms") hL (.tail _ (.tail _ (.head _)))
  have hm := cell_of_shapedOpen_int (g := 2) (t := 3) (zero := #[.int .i64 0]) (k := .i64) hS size_globals (by kernel_rfl) rfl (by kernel_rfl) (by kernel_rfl) Tryd.underlying3
  have all : ∀ k : Int, 1 ≤ k → k ≤ 8 → W.cell? ⟨1, k.toNat * 3, none⟩ = some (.bool (named k)) ∧ W.cell? ⟨1, k.toNat * 3 + 1, none⟩ = some (.int .i64 (leastOf k)) ∧ W.cell? ⟨1, k.toNat * 3 + 2, none⟩ = some (.int .i64 (mostOf k)) := by
    intro k h1 h8
    have hc : k = 1 ∨ k = 2 ∨ k = 3 ∨ k = 4 ∨ k = 5 ∨ k = 6 ∨ k = 7 ∨ k = 8 := by omega
    rcases hc with rfl | rfl | rfl | rfl | rfl | rfl | rfl | rfl
    all_goals exact shape_at hV _ (by decide) _ _ _ (fun ds e => by cases e; rfl)
  have alf : ∀ k : Int, 0 ≤ k → k ≤ 9 → W.cell? ⟨0, k.toNat * 4, none⟩ = some (.bool (fS k)) ∧ W.cell? ⟨0, k.toNat * 4 + 1, none⟩ = some (.bool (fP k)) ∧ W.cell? ⟨0, k.toNat * 4 + 2, none⟩ = some (.bool (fE k)) ∧ W.cell? ⟨0, k.toNat * 4 + 3, none⟩ = some (.bool (fT k)) := by
    intro k h1 h8
    have hc : k = 0 ∨ k = 1 ∨ k = 2 ∨ k = 3 ∨ k = 4 ∨ k = 5 ∨ k = 6 ∨ k = 7 ∨ k = 8 ∨ k = 9 := by omega
    rcases hc with rfl | rfl | rfl | rfl | rfl | rfl | rfl | rfl | rfl | rfl
    all_goals exact form_at hF _ (by decide) _ _ _ _ (fun ds e => by cases e; rfl)
  exact ⟨⟨⟨hm⟩, ⟨fun k a b => (all k a b).1, fun k a b => (all k a b).2.1, fun k a b => (all k a b).2.2⟩⟩, ⟨fun k a b => (alf k a b).1, fun k a b => (alf k a b).2.1, fun k a b => (alf k a b).2.2.1, fun k a b => (alf k a b).2.2.2⟩⟩
noncomputable def laidWorldF (os : Os) : World :=
  let w0 := World.holding Tryd.prog os ⟨#[], #[], []⟩
  let put (h : Array Obj) (g : Nat) (cs : Array Value) : Array Obj := h.modify g fun
    | .cells _ t frozen => .cells cs t frozen
    | o => o
  let sh (n : Bool) (a b : Int) : List Value := [.bool n, .int .i64 a, .int .i64 b]
  let fo (a b c d : Bool) : List Value := [.bool a, .bool b, .bool c, .bool d]
  let h0 := put w0.heap 0 ((fo true false false false) ++ (fo false true true false) ++ (fo false true false true) ++ (fo false false false true) ++ (fo false true false true) ++ (fo false false false true) ++ (fo false true false true) ++ (fo false false false false) ++ (fo false false false false) ++ (fo false false false false)).toArray
  let h1 := put h0 1 ((sh false 0 0) ++ (sh false 1 1) ++ (sh false 1 1) ++ (sh false 1 1) ++ (sh true 0 1) ++ (sh false 0 0) ++ (sh true 0 0) ++ (sh false 0 0) ++ (sh false 0 0)).toArray
  let h2 := put h1 3 (Lib.firstTab.map fun z => Value.int .u8 z).toArray
  let h3 := put h2 4 ((List.range 16).flatMap fun i => [Value.int .u8 (Lib.accLo i), Value.int .u8 (Lib.accHi i)]).toArray
  { w0 with heap := h3 }
theorem laid_metF (os : Os) (args : Array Value) : laidMet Tryd.prog laidAllF ((laidWorldF os).forCall (fun _ _ => 0) ⟨#[], args, []⟩).memory :=
  laidMet_of_run' 8 (by kernel_rfl) (by kernel_rfl)
end Go.Proofs.YtkpnfejfbmandaaDoor.Px
