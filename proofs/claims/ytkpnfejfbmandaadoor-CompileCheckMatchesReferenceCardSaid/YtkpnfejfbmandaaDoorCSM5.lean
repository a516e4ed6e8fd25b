import Derived.Test.YtkpnfejfbmandaaDoorCSM4
import Derived.Test.YtkpnfejfbmandaaDoorCU11
import Derived.Test.YtkpnfejfbmandaaDoorCSM3
/- tmplpiperef17.one, opcodes 0, 1, 3. -/
namespace Go.Proofs.YtkpnfejfbmandaaDoor.Px
open Go.RowKit Go.Proofs.YtkpnfejfbmandaaDoorW.PrintWords Go.Proofs.YtkpnfejfbmandaaDoorW.PrintLast Go.Proofs.YtkpnfejfbmandaaDoorW.PrintMore
set_option linter.unusedVariables false
set_option linter.unusedSimpArgs false
theorem rsplit_any (s : ByteArray) (hs : s.size ≤ 65536) (w : World) :
    Calls Tryd.prog 64 #[.string s] w fun e w' => ∃ v, e = .returned (.tuple #[v, .int .i64 (pathE s)]) ∧ Below w.heap.size w w' := by
  obtain ⟨⟨r1, r2⟩, hr⟩ := split_ends s hs _ (Nat.le_refl _)
  have h2 := split_is hs hr
  refine (tmplpiperef09_Split.calls _ s r1 r2 w hr).mono ?_
  rintro e w' ⟨v, rfl, -, HB⟩
  refine ⟨v, ?_, HB⟩
  rw [show r2 = pathE s from h2]
theorem emp_of {a : ByteArray} (h : a.toList.isEmpty = true) : a = e0 := by
  have h1 : a.toList = [] := by simpa using h
  rw [ByteArray.toList_eq] at h1
  obtain ⟨⟨l⟩⟩ := a
  simp at h1
  rw [h1]
theorem clean_facts {x : S40} (h : cleanB x = true) : (fS x.f0 = false → x.f1 = e0) ∧ (fP x.f0 = false → x.f2 = e0) ∧ (fE x.f0 = false → x.f4 = 0) ∧ (fT x.f0 = false → x.f5 = 0) ∧ (x.f0 ≠ 6 → x.f3 = false) ∧ (x.f0 = 6 → x.f3 = true ∨ x.f2 = e0) := by
  unfold cleanB at h
  simp only [Bool.and_eq_true, Bool.or_eq_true, beq_iff_eq, Bool.not_eq_true'] at h
  obtain ⟨h1, h2, h3, h4, h5, h6⟩ := h
  refine ⟨fun e => ?_, fun e => ?_, fun e => ?_, fun e => ?_, fun e => ?_, fun e => ?_⟩
  · rcases h1 with h | h
    · rw [e] at h; cases h
    · exact emp_of h
  · rcases h2 with h | h
    · rw [e] at h; cases h
    · exact emp_of h
  · rcases h3 with h | h
    · rw [e] at h; cases h
    · exact h
  · rcases h4 with h | h
    · rw [e] at h; cases h
    · exact h
  · rcases h5 with h | h
    · exact absurd h e
    · exact h
  · rcases h6 with h | h | h
    · rw [e] at h; cases h
    · exact .inl h
    · exact .inr (emp_of h)
abbrev one.Con (k : Int) : Prop := ∀ (x1 x2 : ByteArray) (x3 : Bool) (x4 x5 i many : Int) (w : World), x2.size ≤ 65536 →
  Calls Tryd.prog 41 #[.agg #[.int .i64 k, .string x1, .string x2, .bool x3, .int .i64 x4, .int .i64 x5], .int .i64 i, .int .i64 many] w fun e w' => e = .returned (.int .i64 (checkI ⟨k, x1, x2, x3, x4, x5⟩ i many)) ∧ Below w.heap.size w w'
set_option maxHeartbeats 4000000 in
set_option maxRecDepth 100000 in
theorem one.c0 : one.Con 0 := by
  intro x1 x2 x3 x4 x5 i many w hz
  obtain ⟨r, hr⟩ : ∃ r, r = checkI ⟨0, x1, x2, x3, x4, x5⟩ i many := ⟨_, rfl⟩
  rw [← hr]
  unfold checkI at hr
  rw [if_neg (by show ¬ ((0 : Int) < 0 ∨ (9 : Int) < 0); decide)] at hr
  cases hc : cleanB ⟨0, x1, x2, x3, x4, x5⟩
  case false =>
    rw [hc, if_pos rfl] at hr
    have hr2 := Aside0.mk hr
    clear hr
    replace hc := Aside0.mk hc
    go_enter Tryd.func41, Tryd.ntmps41
    go_wp2_with fail
    all_goals first
      | (exfalso; have hc2 := hc.out; simp_all [cleanB, fS, fP, fE, fT]; done)
      | (go_ret; exact ⟨by rw [hr2.out]; rfl, below_alloc (Below.refl _ _) _⟩)
  rw [hc, if_neg (by decide)] at hr
  obtain ⟨q1, q2, q3, q4, q5, q6⟩ := clean_facts hc
  dsimp only at q1 q2 q3 q4 q5 q6
  obtain rfl := q2 rfl
  obtain rfl := q3 rfl
  obtain rfl := q4 rfl
  obtain rfl := q5 (by decide)
  have hsp := Aside0.mk (fun W => rsplit_any e0 hz W)
  have hem : e0.toList = [] := e0_list
  clear q1 q2 q3 q4 q5 q6
  replace hc := Aside0.mk hc
  rw [if_neg (by show ¬ pathL e0.data.toList = false; rw [e0_path]; decide)] at hr
  rw [pathE_t e0_path] at hsp
  unfold chk2 at hr
  dsimp only at hr
  have hr2 := Aside0.mk hr
  clear hr
  go_enter Tryd.func41, Tryd.ntmps41
  go_wp2_with (go_at_call 64; refine (hsp.out _).mono ?_; rintro ee w3 ⟨v, rfl, HB3⟩; have hb3 := blk_below (blk_new w _) HB3; have n0 : w3.cell? ⟨w.heap.size, 0, none⟩ = some (.int .i64 0) := blk_cell hb3 0; have n4 : w3.cell? ⟨w.heap.size, 4, none⟩ = some (.int .i64 0) := blk_cell hb3 4; have n5 : w3.cell? ⟨w.heap.size, 5, none⟩ = some (.int .i64 0) := blk_cell hb3 5; replace HB3 := Aside0.mk (below_step (below_alloc (Below.refl _ _) _) HB3); clear hb3)
  all_goals go_ret
  all_goals exact ⟨by rw [hr2.out]; rfl, HB3.out⟩
set_option maxHeartbeats 4000000 in
set_option maxRecDepth 100000 in
theorem one.c1 : one.Con 1 := by
  intro x1 x2 x3 x4 x5 i many w hz
  obtain ⟨r, hr⟩ : ∃ r, r = checkI ⟨1, x1, x2, x3, x4, x5⟩ i many := ⟨_, rfl⟩
  rw [← hr]
  unfold checkI at hr
  rw [if_neg (by show ¬ ((1 : Int) < 0 ∨ (9 : Int) < 1); decide)] at hr
  cases hc : cleanB ⟨1, x1, x2, x3, x4, x5⟩
  case false =>
    rw [hc, if_pos rfl] at hr
    have hr2 := Aside0.mk hr
    clear hr
    replace hc := Aside0.mk hc
    go_enter Tryd.func41, Tryd.ntmps41
    go_wp2_with fail
    all_goals first
      | (exfalso; have hc2 := hc.out; simp_all [cleanB, fS, fP, fE, fT]; done)
      | (go_ret; exact ⟨by rw [hr2.out]; rfl, below_alloc (Below.refl _ _) _⟩)
  rw [hc, if_neg (by decide)] at hr
  obtain ⟨q1, q2, q3, q4, q5, q6⟩ := clean_facts hc
  dsimp only at q1 q2 q3 q4 q5 q6
  obtain rfl := q1 rfl
  obtain rfl := q4 rfl
  obtain rfl := q5 (by decide)
  have hsp := Aside0.mk (fun W => rsplit_any x2 hz W)
  have hem : e0.toList = [] := e0_list
  clear q1 q2 q3 q4 q5 q6
  replace hc := Aside0.mk hc
  cases hx2 : x2.toList.isEmpty
  all_goals
    cases hz0 : (x4 != 0)
    all_goals
      have hz1 := congrArg not hz0
      simp only [bne, Bool.not_not, Bool.not_true, Bool.not_false] at hz1
      cases hp : pathL x2.data.toList
      case false =>
        rw [hp, if_pos rfl] at hr
        rw [pathE_f hp] at hsp
        have hr2 := Aside0.mk hr
        clear hr
        go_enter Tryd.func41, Tryd.ntmps41
        go_wp2_with (go_at_call 64; refine (hsp.out _).mono ?_; rintro ee w3 ⟨v, rfl, HB3⟩; have hb3 := blk_below (blk_new w _) HB3; have n0 : w3.cell? ⟨w.heap.size, 0, none⟩ = some (.int .i64 1) := blk_cell hb3 0; have n4 : w3.cell? ⟨w.heap.size, 4, none⟩ = some (.int .i64 x4) := blk_cell hb3 4; have n5 : w3.cell? ⟨w.heap.size, 5, none⟩ = some (.int .i64 0) := blk_cell hb3 5; replace HB3 := Aside0.mk (below_step (below_alloc (Below.refl _ _) _) HB3); clear hb3)
        all_goals go_ret
        all_goals exact ⟨by rw [hr2.out]; rfl, HB3.out⟩
      case true =>
        rw [hp, if_neg (by decide)] at hr
        rw [pathE_t hp] at hsp
        unfold chk2 at hr
        dsimp only at hr
        have r0 : decide (5 ≤ x4) = decide (4 < x4) := decide_eq_decide.2 (by omega)
        rw [r0] at hr
        clear r0
        cases a1 : decide (x4 < 0)
        case false =>
          cases a2 : decide (4 < x4)
          case false =>
            rw [a1, a2] at hr
            have hr2 := Aside0.mk hr
            clear hr
            go_enter Tryd.func41, Tryd.ntmps41
            go_wp2_with (go_at_call 64; refine (hsp.out _).mono ?_; rintro ee w3 ⟨v, rfl, HB3⟩; have hb3 := blk_below (blk_new w _) HB3; have n0 : w3.cell? ⟨w.heap.size, 0, none⟩ = some (.int .i64 1) := blk_cell hb3 0; have n4 : w3.cell? ⟨w.heap.size, 4, none⟩ = some (.int .i64 x4) := blk_cell hb3 4; have n5 : w3.cell? ⟨w.heap.size, 5, none⟩ = some (.int .i64 0) := blk_cell hb3 5; replace HB3 := Aside0.mk (below_step (below_alloc (Below.refl _ _) _) HB3); clear hb3)
            all_goals go_ret
            all_goals exact ⟨by rw [hr2.out]; rfl, HB3.out⟩
          case true =>
            rw [a1, a2] at hr
            have hr2 := Aside0.mk hr
            clear hr
            go_enter Tryd.func41, Tryd.ntmps41
            go_wp2_with (go_at_call 64; refine (hsp.out _).mono ?_; rintro ee w3 ⟨v, rfl, HB3⟩; have hb3 := blk_below (blk_new w _) HB3; have n0 : w3.cell? ⟨w.heap.size, 0, none⟩ = some (.int .i64 1) := blk_cell hb3 0; have n4 : w3.cell? ⟨w.heap.size, 4, none⟩ = some (.int .i64 x4) := blk_cell hb3 4; have n5 : w3.cell? ⟨w.heap.size, 5, none⟩ = some (.int .i64 0) := blk_cell hb3 5; replace HB3 := Aside0.mk (below_step (below_alloc (Below.refl _ _) _) HB3); clear hb3)
            all_goals go_ret
            all_goals exact ⟨by rw [hr2.out]; rfl, HB3.out⟩
        case true =>
          rw [a1] at hr
          have hr2 := Aside0.mk hr
          clear hr
          go_enter Tryd.func41, Tryd.ntmps41
          go_wp2_with (go_at_call 64; refine (hsp.out _).mono ?_; rintro ee w3 ⟨v, rfl, HB3⟩; have hb3 := blk_below (blk_new w _) HB3; have n0 : w3.cell? ⟨w.heap.size, 0, none⟩ = some (.int .i64 1) := blk_cell hb3 0; have n4 : w3.cell? ⟨w.heap.size, 4, none⟩ = some (.int .i64 x4) := blk_cell hb3 4; have n5 : w3.cell? ⟨w.heap.size, 5, none⟩ = some (.int .i64 0) := blk_cell hb3 5; replace HB3 := Aside0.mk (below_step (below_alloc (Below.refl _ _) _) HB3); clear hb3)
          all_goals go_ret
          all_goals exact ⟨by rw [hr2.out]; rfl, HB3.out⟩
set_option maxHeartbeats 4000000 in
set_option maxRecDepth 100000 in
theorem one.c3 : one.Con 3 := by
  intro x1 x2 x3 x4 x5 i many w hz
  obtain ⟨r, hr⟩ : ∃ r, r = checkI ⟨3, x1, x2, x3, x4, x5⟩ i many := ⟨_, rfl⟩
  rw [← hr]
  unfold checkI at hr
  rw [if_neg (by show ¬ ((3 : Int) < 0 ∨ (9 : Int) < 3); decide)] at hr
  cases hc : cleanB ⟨3, x1, x2, x3, x4, x5⟩
  case false =>
    rw [hc, if_pos rfl] at hr
    have hr2 := Aside0.mk hr
    clear hr
    replace hc := Aside0.mk hc
    go_enter Tryd.func41, Tryd.ntmps41
    go_wp2_with fail
    all_goals first
      | (exfalso; have hc2 := hc.out; simp_all [cleanB, fS, fP, fE, fT]; done)
      | (go_ret; exact ⟨by rw [hr2.out]; rfl, below_alloc (Below.refl _ _) _⟩)
  rw [hc, if_neg (by decide)] at hr
  obtain ⟨q1, q2, q3, q4, q5, q6⟩ := clean_facts hc
  dsimp only at q1 q2 q3 q4 q5 q6
  obtain rfl := q1 rfl
  obtain rfl := q2 rfl
  obtain rfl := q3 rfl
  obtain rfl := q5 (by decide)
  have hsp := Aside0.mk (fun W => rsplit_any e0 hz W)
  have hem : e0.toList = [] := e0_list
  clear q1 q2 q3 q4 q5 q6
  replace hc := Aside0.mk hc
  cases hz0 : (x5 != 0)
  all_goals
    have hz1 := congrArg not hz0
    simp only [bne, Bool.not_not, Bool.not_true, Bool.not_false] at hz1
    rw [if_neg (by show ¬ pathL e0.data.toList = false; rw [e0_path]; decide)] at hr
    rw [pathE_t e0_path] at hsp
    unfold chk2 at hr
    dsimp only at hr
    have r1 : decide (0 ≤ x5) = !decide (x5 < 0) := by by_cases h : x5 < 0 <;> simp [h] <;> omega
    have r2 : decide (x5 < many) = !decide (many ≤ x5) := by by_cases h : many ≤ x5 <;> simp [h] <;> omega
    unfold insT at hr
    dsimp only at hr
    simp only [show ((3 : Int) == 2) = false from rfl, show ((3 : Int) == 3) = true from rfl, show ((3 : Int) == 4) = false from rfl, show ((3 : Int) == 5) = false from rfl, cond_true, cond_false] at hr
    have r3 : decide (i < x5) = !decide (x5 ≤ i) := by by_cases h : x5 ≤ i <;> simp [h] <;> omega
    rw [r1, r2, r3] at hr
    clear r1 r2 r3
    cases a4 : decide (x5 < 0)
    case false =>
      cases a5 : decide (many ≤ x5)
      case false =>
        cases a6 : decide (x5 ≤ i)
        case false =>
          rw [a4, a5, a6] at hr
          have hr2 := Aside0.mk hr
          clear hr
          go_enter Tryd.func41, Tryd.ntmps41
          go_wp2_with (go_at_call 64; refine (hsp.out _).mono ?_; rintro ee w3 ⟨v, rfl, HB3⟩; have hb3 := blk_below (blk_new w _) HB3; have n0 : w3.cell? ⟨w.heap.size, 0, none⟩ = some (.int .i64 3) := blk_cell hb3 0; have n4 : w3.cell? ⟨w.heap.size, 4, none⟩ = some (.int .i64 0) := blk_cell hb3 4; have n5 : w3.cell? ⟨w.heap.size, 5, none⟩ = some (.int .i64 x5) := blk_cell hb3 5; replace HB3 := Aside0.mk (below_step (below_alloc (Below.refl _ _) _) HB3); clear hb3)
          all_goals go_ret
          all_goals exact ⟨by rw [hr2.out]; rfl, HB3.out⟩
        case true =>
          rw [a4, a5, a6] at hr
          have hr2 := Aside0.mk hr
          clear hr
          go_enter Tryd.func41, Tryd.ntmps41
          go_wp2_with (go_at_call 64; refine (hsp.out _).mono ?_; rintro ee w3 ⟨v, rfl, HB3⟩; have hb3 := blk_below (blk_new w _) HB3; have n0 : w3.cell? ⟨w.heap.size, 0, none⟩ = some (.int .i64 3) := blk_cell hb3 0; have n4 : w3.cell? ⟨w.heap.size, 4, none⟩ = some (.int .i64 0) := blk_cell hb3 4; have n5 : w3.cell? ⟨w.heap.size, 5, none⟩ = some (.int .i64 x5) := blk_cell hb3 5; replace HB3 := Aside0.mk (below_step (below_alloc (Below.refl _ _) _) HB3); clear hb3)
          all_goals go_ret
          all_goals exact ⟨by rw [hr2.out]; rfl, HB3.out⟩
      case true =>
        rw [a4, a5] at hr
        have hr2 := Aside0.mk hr
        clear hr
        go_enter Tryd.func41, Tryd.ntmps41
        go_wp2_with (go_at_call 64; refine (hsp.out _).mono ?_; rintro ee w3 ⟨v, rfl, HB3⟩; have hb3 := blk_below (blk_new w _) HB3; have n0 : w3.cell? ⟨w.heap.size, 0, none⟩ = some (.int .i64 3) := blk_cell hb3 0; have n4 : w3.cell? ⟨w.heap.size, 4, none⟩ = some (.int .i64 0) := blk_cell hb3 4; have n5 : w3.cell? ⟨w.heap.size, 5, none⟩ = some (.int .i64 x5) := blk_cell hb3 5; replace HB3 := Aside0.mk (below_step (below_alloc (Below.refl _ _) _) HB3); clear hb3)
        all_goals go_ret
        all_goals exact ⟨by rw [hr2.out]; rfl, HB3.out⟩
    case true =>
      rw [a4] at hr
      have hr2 := Aside0.mk hr
      clear hr
      go_enter Tryd.func41, Tryd.ntmps41
      go_wp2_with (go_at_call 64; refine (hsp.out _).mono ?_; rintro ee w3 ⟨v, rfl, HB3⟩; have hb3 := blk_below (blk_new w _) HB3; have n0 : w3.cell? ⟨w.heap.size, 0, none⟩ = some (.int .i64 3) := blk_cell hb3 0; have n4 : w3.cell? ⟨w.heap.size, 4, none⟩ = some (.int .i64 0) := blk_cell hb3 4; have n5 : w3.cell? ⟨w.heap.size, 5, none⟩ = some (.int .i64 x5) := blk_cell hb3 5; replace HB3 := Aside0.mk (below_step (below_alloc (Below.refl _ _) _) HB3); clear hb3)
      all_goals go_ret
      all_goals exact ⟨by rw [hr2.out]; rfl, HB3.out⟩
end Go.Proofs.YtkpnfejfbmandaaDoor.Px
namespace Go.Proofs.YtkpnfejfbmandaaDoor.Px
open Go.RowKit Go.Proofs.YtkpnfejfbmandaaDoorW.PrintWords Go.Proofs.YtkpnfejfbmandaaDoorW.PrintLast Go.Proofs.YtkpnfejfbmandaaDoorW.PrintMore
set_option linter.unusedVariables false
set_option linter.unusedSimpArgs false
set_option maxHeartbeats 4000000 in
set_option maxRecDepth 100000 in
theorem one.c5 : one.Con 5 := by
  intro x1 x2 x3 x4 x5 i many w hz
  obtain ⟨r, hr⟩ : ∃ r, r = checkI ⟨5, x1, x2, x3, x4, x5⟩ i many := ⟨_, rfl⟩
  rw [← hr]
  unfold checkI at hr
  rw [if_neg (by show ¬ ((5 : Int) < 0 ∨ (9 : Int) < 5); decide)] at hr
  cases hc : cleanB ⟨5, x1, x2, x3, x4, x5⟩
  case false =>
    rw [hc, if_pos rfl] at hr
    have hr2 := Aside0.mk hr
    clear hr
    replace hc := Aside0.mk hc
    go_enter Tryd.func41, Tryd.ntmps41
    go_wp2_with fail
    all_goals first
      | (exfalso; have hc2 := hc.out; simp_all [cleanB, fS, fP, fE, fT]; done)
      | (go_ret; exact ⟨by rw [hr2.out]; rfl, below_alloc (Below.refl _ _) _⟩)
  rw [hc, if_neg (by decide)] at hr
  obtain ⟨q1, q2, q3, q4, q5, q6⟩ := clean_facts hc
  dsimp only at q1 q2 q3 q4 q5 q6
  obtain rfl := q1 rfl
  obtain rfl := q2 rfl
  obtain rfl := q3 rfl
  obtain rfl := q5 (by decide)
  have hsp := Aside0.mk (fun W => rsplit_any e0 hz W)
  have hem : e0.toList = [] := e0_list
  clear q1 q2 q3 q4 q5 q6
  replace hc := Aside0.mk hc
  cases hz0 : (x5 != 0)
  all_goals
    have hz1 := congrArg not hz0
    simp only [bne, Bool.not_not, Bool.not_true, Bool.not_false] at hz1
    rw [if_neg (by show ¬ pathL e0.data.toList = false; rw [e0_path]; decide)] at hr
    rw [pathE_t e0_path] at hsp
    unfold chk2 at hr
    dsimp only at hr
    have r1 : decide (0 ≤ x5) = !decide (x5 < 0) := by by_cases h : x5 < 0 <;> simp [h] <;> omega
    have r2 : decide (x5 < many) = !decide (many ≤ x5) := by by_cases h : many ≤ x5 <;> simp [h] <;> omega
    unfold insT at hr
    dsimp only at hr
    simp only [show ((5 : Int) == 2) = false from rfl, show ((5 : Int) == 3) = false from rfl, show ((5 : Int) == 4) = false from rfl, show ((5 : Int) == 5) = true from rfl, cond_true, cond_false] at hr
    have r3 : decide (x5 ≤ i) = !decide (i < x5) := by by_cases h : i < x5 <;> simp [h] <;> omega
    rw [r1, r2, r3] at hr
    clear r1 r2 r3
    cases a4 : decide (x5 < 0)
    case false =>
      cases a5 : decide (many ≤ x5)
      case false =>
        cases a6 : decide (i < x5)
        case false =>
          rw [a4, a5, a6] at hr
          have hr2 := Aside0.mk hr
          clear hr
          go_enter Tryd.func41, Tryd.ntmps41
          go_wp2_with (go_at_call 64; refine (hsp.out _).mono ?_; rintro ee w3 ⟨v, rfl, HB3⟩; have hb3 := blk_below (blk_new w _) HB3; have n0 : w3.cell? ⟨w.heap.size, 0, none⟩ = some (.int .i64 5) := blk_cell hb3 0; have n4 : w3.cell? ⟨w.heap.size, 4, none⟩ = some (.int .i64 0) := blk_cell hb3 4; have n5 : w3.cell? ⟨w.heap.size, 5, none⟩ = some (.int .i64 x5) := blk_cell hb3 5; replace HB3 := Aside0.mk (below_step (below_alloc (Below.refl _ _) _) HB3); clear hb3)
          all_goals go_ret
          all_goals exact ⟨by rw [hr2.out]; rfl, HB3.out⟩
        case true =>
          rw [a4, a5, a6] at hr
          have hr2 := Aside0.mk hr
          clear hr
          go_enter Tryd.func41, Tryd.ntmps41
          go_wp2_with (go_at_call 64; refine (hsp.out _).mono ?_; rintro ee w3 ⟨v, rfl, HB3⟩; have hb3 := blk_below (blk_new w _) HB3; have n0 : w3.cell? ⟨w.heap.size, 0, none⟩ = some (.int .i64 5) := blk_cell hb3 0; have n4 : w3.cell? ⟨w.heap.size, 4, none⟩ = some (.int .i64 0) := blk_cell hb3 4; have n5 : w3.cell? ⟨w.heap.size, 5, none⟩ = some (.int .i64 x5) := blk_cell hb3 5; replace HB3 := Aside0.mk (below_step (below_alloc (Below.refl _ _) _) HB3); clear hb3)
          all_goals go_ret
          all_goals exact ⟨by rw [hr2.out]; rfl, HB3.out⟩
      case true =>
        rw [a4, a5] at hr
        have hr2 := Aside0.mk hr
        clear hr
        go_enter Tryd.func41, Tryd.ntmps41
        go_wp2_with (go_at_call 64; refine (hsp.out _).mono ?_; rintro ee w3 ⟨v, rfl, HB3⟩; have hb3 := blk_below (blk_new w _) HB3; have n0 : w3.cell? ⟨w.heap.size, 0, none⟩ = some (.int .i64 5) := blk_cell hb3 0; have n4 : w3.cell? ⟨w.heap.size, 4, none⟩ = some (.int .i64 0) := blk_cell hb3 4; have n5 : w3.cell? ⟨w.heap.size, 5, none⟩ = some (.int .i64 x5) := blk_cell hb3 5; replace HB3 := Aside0.mk (below_step (below_alloc (Below.refl _ _) _) HB3); clear hb3)
        all_goals go_ret
        all_goals exact ⟨by rw [hr2.out]; rfl, HB3.out⟩
    case true =>
      rw [a4] at hr
      have hr2 := Aside0.mk hr
      clear hr
      go_enter Tryd.func41, Tryd.ntmps41
      go_wp2_with (go_at_call 64; refine (hsp.out _).mono ?_; rintro ee w3 ⟨v, rfl, HB3⟩; have hb3 := blk_below (blk_new w _) HB3; have n0 : w3.cell? ⟨w.heap.size, 0, none⟩ = some (.int .i64 5) := blk_cell hb3 0; have n4 : w3.cell? ⟨w.heap.size, 4, none⟩ = some (.int .i64 0) := blk_cell hb3 4; have n5 : w3.cell? ⟨w.heap.size, 5, none⟩ = some (.int .i64 x5) := blk_cell hb3 5; replace HB3 := Aside0.mk (below_step (below_alloc (Below.refl _ _) _) HB3); clear hb3)
      all_goals go_ret
      all_goals exact ⟨by rw [hr2.out]; rfl, HB3.out⟩
set_option maxHeartbeats 4000000 in
set_option maxRecDepth 100000 in
theorem one.c7 : one.Con 7 := by
  intro x1 x2 x3 x4 x5 i many w hz
  obtain ⟨r, hr⟩ : ∃ r, r = checkI ⟨7, x1, x2, x3, x4, x5⟩ i many := ⟨_, rfl⟩
  rw [← hr]
  unfold checkI at hr
  rw [if_neg (by show ¬ ((7 : Int) < 0 ∨ (9 : Int) < 7); decide)] at hr
  cases hc : cleanB ⟨7, x1, x2, x3, x4, x5⟩
  case false =>
    rw [hc, if_pos rfl] at hr
    have hr2 := Aside0.mk hr
    clear hr
    replace hc := Aside0.mk hc
    go_enter Tryd.func41, Tryd.ntmps41
    go_wp2_with fail
    all_goals first
      | (exfalso; have hc2 := hc.out; simp_all [cleanB, fS, fP, fE, fT]; done)
      | (go_ret; exact ⟨by rw [hr2.out]; rfl, below_alloc (Below.refl _ _) _⟩)
  rw [hc, if_neg (by decide)] at hr
  obtain ⟨q1, q2, q3, q4, q5, q6⟩ := clean_facts hc
  dsimp only at q1 q2 q3 q4 q5 q6
  obtain rfl := q1 rfl
  obtain rfl := q2 rfl
  obtain rfl := q3 rfl
  obtain rfl := q4 rfl
  obtain rfl := q5 (by decide)
  have hsp := Aside0.mk (fun W => rsplit_any e0 hz W)
  have hem : e0.toList = [] := e0_list
  clear q1 q2 q3 q4 q5 q6
  replace hc := Aside0.mk hc
  rw [if_neg (by show ¬ pathL e0.data.toList = false; rw [e0_path]; decide)] at hr
  rw [pathE_t e0_path] at hsp
  unfold chk2 at hr
  dsimp only at hr
  have hr2 := Aside0.mk hr
  clear hr
  go_enter Tryd.func41, Tryd.ntmps41
  go_wp2_with (go_at_call 64; refine (hsp.out _).mono ?_; rintro ee w3 ⟨v, rfl, HB3⟩; have hb3 := blk_below (blk_new w _) HB3; have n0 : w3.cell? ⟨w.heap.size, 0, none⟩ = some (.int .i64 7) := blk_cell hb3 0; have n4 : w3.cell? ⟨w.heap.size, 4, none⟩ = some (.int .i64 0) := blk_cell hb3 4; have n5 : w3.cell? ⟨w.heap.size, 5, none⟩ = some (.int .i64 0) := blk_cell hb3 5; replace HB3 := Aside0.mk (below_step (below_alloc (Below.refl _ _) _) HB3); clear hb3)
  all_goals go_ret
  all_goals exact ⟨by rw [hr2.out]; rfl, HB3.out⟩
set_option maxHeartbeats 4000000 in
set_option maxRecDepth 100000 in
theorem one.c8 : one.Con 8 := by
  intro x1 x2 x3 x4 x5 i many w hz
  obtain ⟨r, hr⟩ : ∃ r, r = checkI ⟨8, x1, x2, x3, x4, x5⟩ i many := ⟨_, rfl⟩
  rw [← hr]
  unfold checkI at hr
  rw [if_neg (by show ¬ ((8 : Int) < 0 ∨ (9 : Int) < 8); decide)] at hr
  cases hc : cleanB ⟨8, x1, x2, x3, x4, x5⟩
  case false =>
    rw [hc, if_pos rfl] at hr
    have hr2 := Aside0.mk hr
    clear hr
    replace hc := Aside0.mk hc
    go_enter Tryd.func41, Tryd.ntmps41
    go_wp2_with fail
    all_goals first
      | (exfalso; have hc2 := hc.out; simp_all [cleanB, fS, fP, fE, fT]; done)
      | (go_ret; exact ⟨by rw [hr2.out]; rfl, below_alloc (Below.refl _ _) _⟩)
  rw [hc, if_neg (by decide)] at hr
  obtain ⟨q1, q2, q3, q4, q5, q6⟩ := clean_facts hc
  dsimp only at q1 q2 q3 q4 q5 q6
  obtain rfl := q1 rfl
  obtain rfl := q2 rfl
  obtain rfl := q3 rfl
  obtain rfl := q4 rfl
  obtain rfl := q5 (by decide)
  have hsp := Aside0.mk (fun W => rsplit_any e0 hz W)
  have hem : e0.toList = [] := e0_list
  clear q1 q2 q3 q4 q5 q6
  replace hc := Aside0.mk hc
  rw [if_neg (by show ¬ pathL e0.data.toList = false; rw [e0_path]; decide)] at hr
  rw [pathE_t e0_path] at hsp
  unfold chk2 at hr
  dsimp only at hr
  have hr2 := Aside0.mk hr
  clear hr
  go_enter Tryd.func41, Tryd.ntmps41
  go_wp2_with (go_at_call 64; refine (hsp.out _).mono ?_; rintro ee w3 ⟨v, rfl, HB3⟩; have hb3 := blk_below (blk_new w _) HB3; have n0 : w3.cell? ⟨w.heap.size, 0, none⟩ = some (.int .i64 8) := blk_cell hb3 0; have n4 : w3.cell? ⟨w.heap.size, 4, none⟩ = some (.int .i64 0) := blk_cell hb3 4; have n5 : w3.cell? ⟨w.heap.size, 5, none⟩ = some (.int .i64 0) := blk_cell hb3 5; replace HB3 := Aside0.mk (below_step (below_alloc (Below.refl _ _) _) HB3); clear hb3)
  all_goals go_ret
  all_goals exact ⟨by rw [hr2.out]; rfl, HB3.out⟩
set_option maxHeartbeats 4000000 in
set_option maxRecDepth 100000 in
theorem one.c9 : one.Con 9 := by
  intro x1 x2 x3 x4 x5 i many w hz
  obtain ⟨r, hr⟩ : ∃ r, r = checkI ⟨9, x1, x2, x3, x4, x5⟩ i many := ⟨_, rfl⟩
  rw [← hr]
  unfold checkI at hr
  rw [if_neg (by show ¬ ((9 : Int) < 0 ∨ (9 : Int) < 9); decide)] at hr
  cases hc : cleanB ⟨9, x1, x2, x3, x4, x5⟩
  case false =>
    rw [hc, if_pos rfl] at hr
    have hr2 := Aside0.mk hr
    clear hr
    replace hc := Aside0.mk hc
    go_enter Tryd.func41, Tryd.ntmps41
    go_wp2_with fail
    all_goals first
      | (exfalso; have hc2 := hc.out; simp_all [cleanB, fS, fP, fE, fT]; done)
      | (go_ret; exact ⟨by rw [hr2.out]; rfl, below_alloc (Below.refl _ _) _⟩)
  rw [hc, if_neg (by decide)] at hr
  obtain ⟨q1, q2, q3, q4, q5, q6⟩ := clean_facts hc
  dsimp only at q1 q2 q3 q4 q5 q6
  obtain rfl := q1 rfl
  obtain rfl := q2 rfl
  obtain rfl := q3 rfl
  obtain rfl := q4 rfl
  obtain rfl := q5 (by decide)
  have hsp := Aside0.mk (fun W => rsplit_any e0 hz W)
  have hem : e0.toList = [] := e0_list
  clear q1 q2 q3 q4 q5 q6
  replace hc := Aside0.mk hc
  rw [if_neg (by show ¬ pathL e0.data.toList = false; rw [e0_path]; decide)] at hr
  rw [pathE_t e0_path] at hsp
  unfold chk2 at hr
  dsimp only at hr
  have hr2 := Aside0.mk hr
  clear hr
  go_enter Tryd.func41, Tryd.ntmps41
  go_wp2_with (go_at_call 64; refine (hsp.out _).mono ?_; rintro ee w3 ⟨v, rfl, HB3⟩; have hb3 := blk_below (blk_new w _) HB3; have n0 : w3.cell? ⟨w.heap.size, 0, none⟩ = some (.int .i64 9) := blk_cell hb3 0; have n4 : w3.cell? ⟨w.heap.size, 4, none⟩ = some (.int .i64 0) := blk_cell hb3 4; have n5 : w3.cell? ⟨w.heap.size, 5, none⟩ = some (.int .i64 0) := blk_cell hb3 5; replace HB3 := Aside0.mk (below_step (below_alloc (Below.refl _ _) _) HB3); clear hb3)
  all_goals go_ret
  all_goals exact ⟨by rw [hr2.out]; rfl, HB3.out⟩
end Go.Proofs.YtkpnfejfbmandaaDoor.Px
