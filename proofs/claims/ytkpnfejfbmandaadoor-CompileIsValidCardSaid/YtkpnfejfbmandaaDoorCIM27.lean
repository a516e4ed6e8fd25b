import Derived.Test.YtkpnfejfbmandaaDoorCIM26
import Derived.Test.YtkpnfejfbmandaaDoorCIM5
import Derived.Outline
import Derived.Test.YtkpnfejfbmandaaDoorCIM16
import Derived.Test.YtkpnfejfbmandaaDoorCIM22
/- compile.check. -/
namespace Go.Proofs.YtkpnfejfbmandaaDoor.Px
open Go.RowKit Go.Proofs.YtkpnfejfbmandaaDoorW.PrintWords Go.Proofs.YtkpnfejfbmandaaDoorW.PrintLast Go.Proofs.YtkpnfejfbmandaaDoorW.PrintMore
set_option linter.unusedVariables false
set_option linter.unusedSimpArgs false
structure Forms (w : World) : Prop where
  c0 : ∀ k : Int, 0 ≤ k → k ≤ 9 → w.cell? ⟨0, k.toNat * 4, none⟩ = some (.bool (fS k))
  c1 : ∀ k : Int, 0 ≤ k → k ≤ 9 → w.cell? ⟨0, k.toNat * 4 + 1, none⟩ = some (.bool (fP k))
  c2 : ∀ k : Int, 0 ≤ k → k ≤ 9 → w.cell? ⟨0, k.toNat * 4 + 2, none⟩ = some (.bool (fE k))
  c3 : ∀ k : Int, 0 ≤ k → k ≤ 9 → w.cell? ⟨0, k.toNat * 4 + 3, none⟩ = some (.bool (fT k))
theorem Forms.below {w w1 : World} (h : Forms w) (hb : Below w.heap.size w w1) : Forms w1 := by
  have e : ∀ {a : Addr} {v : Value}, w.cell? a = some v → w1.cell? a = some v := fun h => (hb.cell (World.block_lt_of_cell? _ _ h)).trans h
  exact ⟨fun k a b => e (h.c0 k a b), fun k a b => e (h.c1 k a b), fun k a b => e (h.c2 k a b), fun k a b => e (h.c3 k a b)⟩
def insT (x : S40) (i many : Int) : Bool := (decide (0 ≤ x.f5) && decide (x.f5 < many)) && (bif x.f0 == 2 then decide (i < x.f5) else bif x.f0 == 3 then decide (i < x.f5) else bif x.f0 == 4 then decide (i < x.f5) else bif x.f0 == 5 then decide (x.f5 ≤ i) else true)
def chk2 (x : S40) (i many : Int) : Int := bif decide (x.f4 < 0) then 2 else bif decide (5 ≤ x.f4) then 2 else bif fT x.f0 then (bif insT x i many then 0 else 3) else 0
def checkI (x : S40) (i many : Int) : Int :=
  if x.f0 < 0 ∨ 9 < x.f0 then 5 else if cleanB x = false then 5 else if pathL x.f2.data.toList = false then 11 else chk2 x i many
abbrev insA (x : S40) : Array Value := #[.int .i64 x.f0, .string x.f1, .string x.f2, .bool x.f3, .int .i64 x.f4, .int .i64 x.f5]
set_option maxHeartbeats 4000000 in
set_option maxRecDepth 100000 in
theorem check_out (x : S40) (i many : Int) (w : World) (hk : x.f0 < 0 ∨ 9 < x.f0) :
    Calls Tryd.prog 40 #[.agg #[.int .i64 x.f0, .string x.f1, .string x.f2, .bool x.f3, .int .i64 x.f4, .int .i64 x.f5], .int .i64 i, .int .i64 many] w fun e w' => e = .returned (.int .i64 5) ∧ Below w.heap.size w w' := by
  rcases hk with hk | hk
  · have h1 : decide (x.f0 < 0) = true := decide_eq_true hk
    go_enter Tryd.func40, Tryd.ntmps40
    go_wp2
    go_quiet (fail)
    go_wp2
    go_ret
    exact ⟨rfl, by repeat (first | exact below_alloc (Below.refl _ _) _ | apply pw_below_drewN | apply below_drew1)⟩
  · have h1 : decide (x.f0 < 0) = false := decide_eq_false (by omega)
    have h2 : decide (10 ≤ x.f0) = true := decide_eq_true (by omega)
    go_enter Tryd.func40, Tryd.ntmps40
    go_wp2
    go_quiet (fail)
    go_wp2
    go_ret
    exact ⟨rfl, by repeat (first | exact below_alloc (Below.refl _ _) _ | apply pw_below_drewN | apply below_drew1)⟩
set_option maxHeartbeats 4000000 in
set_option maxRecDepth 100000 in
theorem check_in (x : S40) (i many : Int) (w : World) (hG : Glob w) (hF : Forms w) (h0 : 0 ≤ x.f0) (h9 : x.f0 ≤ 9) (hz : x.f2.size ≤ 65536) :
    Calls Tryd.prog 40 #[.agg #[.int .i64 x.f0, .string x.f1, .string x.f2, .bool x.f3, .int .i64 x.f4, .int .i64 x.f5], .int .i64 i, .int .i64 many] w fun e w' => e = .returned (.int .i64 (checkI x i many)) ∧ Below w.heap.size w w' := by
  obtain ⟨r, hr⟩ : ∃ r, r = checkI x i many := ⟨_, rfl⟩
  rw [← hr]
  unfold checkI at hr
  rw [if_neg (by omega)] at hr
  have h1 : decide (x.f0 < 0) = false := decide_eq_false (by omega)
  have h2 : decide (10 ≤ x.f0) = false := decide_eq_false (by omega)
  have h10 : x.f0 < 10 := by omega
  obtain ⟨W1, e1⟩ : ∃ W1, W1 = w.alloc (.cells #[.int .i64 x.f0, .string x.f1, .string x.f2, .bool x.f3, .int .i64 x.f4, .int .i64 x.f5] 40) := ⟨_, rfl⟩
  have hB1 : Below w.heap.size w W1 := by rw [e1]; exact below_alloc (Below.refl _ _) _
  have hb : W1.heap[w.heap.size]? = some (.cells (insA x) 40 (0, 0)) := by rw [e1]; exact blk_new _ _
  have n0 : W1.cell? ⟨w.heap.size, 0, none⟩ = some (.int .i64 x.f0) := blk_cell hb 0
  have n1 : W1.cell? ⟨w.heap.size, 1, none⟩ = some (.string x.f1) := blk_cell hb 1
  have n2 : W1.cell? ⟨w.heap.size, 2, none⟩ = some (.string x.f2) := blk_cell hb 2
  have n3 : W1.cell? ⟨w.heap.size, 3, none⟩ = some (.bool x.f3) := blk_cell hb 3
  have n4 : W1.cell? ⟨w.heap.size, 4, none⟩ = some (.int .i64 x.f4) := blk_cell hb 4
  have n5 : W1.cell? ⟨w.heap.size, 5, none⟩ = some (.int .i64 x.f5) := blk_cell hb 5
  have hF1 := hF.below hB1
  have f0 := hF1.c0 x.f0 h0 h9
  have f1 := hF1.c1 x.f0 h0 h9
  have f2 := hF1.c2 x.f0 h0 h9
  have f3 := hF1.c3 x.f0 h0 h9
  have hcl := Aside0.mk (fun W => clean_any x h0 h9 W)
  have hsp := Aside0.mk (fun W (hB : Below w.heap.size w W) => split_any x.f2 W hz (hG.below hB))
  replace hr := Aside0.mk hr
  replace hB1 := Aside0.mk hB1
  replace hb := Aside0.mk hb
  replace hF := Aside0.mk hF
  clear hG hF1
  go_enter Tryd.func40, Tryd.ntmps40
  go_upto_region 1 with fail
  rw [← e1]
  clear e1
  go_region_held3 (fun w' => w'.cell? ⟨w.heap.size, 0, none⟩ = some (.int .i64 x.f0) ∧ w'.cell? ⟨w.heap.size, 1, none⟩ = some (.string x.f1) ∧ w'.cell? ⟨w.heap.size, 2, none⟩ = some (.string x.f2) ∧ w'.cell? ⟨w.heap.size, 3, none⟩ = some (.bool x.f3) ∧ w'.cell? ⟨w.heap.size, 4, none⟩ = some (.int .i64 x.f4) ∧ w'.cell? ⟨w.heap.size, 5, none⟩ = some (.int .i64 x.f5) ∧ w'.cell? ⟨0, x.f0.toNat * 4, none⟩ = some (.bool (fS x.f0)) ∧ w'.cell? ⟨0, x.f0.toNat * 4 + 1, none⟩ = some (.bool (fP x.f0)) ∧ w'.cell? ⟨0, x.f0.toNat * 4 + 2, none⟩ = some (.bool (fE x.f0)) ∧ w'.cell? ⟨0, x.f0.toNat * 4 + 3, none⟩ = some (.bool (fT x.f0))) (first | exact ⟨n0, n1, n2, n3, n4, n5, f0, f1, f2, f3⟩ | go_keep) (first | (go_at_call 62; refine (hcl.out _).mono ?_; rintro ee w2 ⟨rfl, o1, o2, rfl⟩))
  have hB2 := Aside0.mk (show Below w.heap.size w ((W1.alloc o1).alloc o2).drew from by repeat (first | exact hB1.out | apply below_alloc | apply below_drew1))
  have hbb := Aside0.mk (show ((W1.alloc o1).alloc o2).drew.heap[w.heap.size]? = some (.cells (insA x) 40 (0, 0)) from blk_alloc (blk_alloc hb.out _) _)
  clear n0 n1 n2 n3 n4 n5 f0 f1 f2 f3 hb hcl
  generalize ((W1.alloc o1).alloc o2).drew = W2 at *
  have n2 : W2.cell? ⟨w.heap.size, 2, none⟩ = some (.string x.f2) := blk_cell hbb.out 2
  cases hc : cleanB x
  case false =>
    rw [hc, if_pos rfl] at hr
    go_wp2_with fail
    go_ret
    exact ⟨by rw [hr.out]; rfl, hB2.out⟩
  rw [hc, if_neg (by decide)] at hr
  cases hp : pathL x.f2.data.toList
  case false =>
    rw [hp, if_pos rfl] at hr
    rw [pathE_f hp] at hsp
    go_wp2_with (go_at_call 63; refine (hsp.out _ hB2.out).mono ?_; rintro ee w3 ⟨v, rfl, HB3⟩; replace HB3 := Aside0.mk (below_step hB2.out HB3))
    go_ret
    exact ⟨by rw [hr.out]; rfl, HB3.out⟩
  rw [hp, if_neg (by decide)] at hr
  rw [pathE_t hp] at hsp
  replace hr := hr.out
  unfold chk2 at hr
  cases a1 : decide (x.f4 < 0)
  case false =>
    simp only [a1, cond_false, Bool.and_false, Bool.false_and] at hr
    cases a2 : decide (5 ≤ x.f4)
    case false =>
      simp only [a2, cond_false, Bool.and_false, Bool.false_and] at hr
      cases a3 : fT x.f0
      case false =>
        simp only [a3, cond_false, Bool.and_false, Bool.false_and] at hr
        replace hr := Aside0.mk hr
        go_wp2_with (go_at_call 63; refine (hsp.out _ hB2.out).mono ?_; rintro ee w3 ⟨v, rfl, HB3⟩; have hb3 := blk_below hbb.out HB3; replace HB3 := Aside0.mk (below_step hB2.out HB3); have n0 : w3.cell? ⟨w.heap.size, 0, none⟩ = some (.int .i64 x.f0) := blk_cell hb3 0; have n4 : w3.cell? ⟨w.heap.size, 4, none⟩ = some (.int .i64 x.f4) := blk_cell hb3 4; have n5 : w3.cell? ⟨w.heap.size, 5, none⟩ = some (.int .i64 x.f5) := blk_cell hb3 5; have f3 := (hF.out.below HB3.out).c3 x.f0 h0 h9; clear hb3 n2 hbb)
        go_ret
        exact ⟨by rw [hr.out]; rfl, HB3.out⟩
      case true =>
        simp only [a3, cond_true, Bool.and_true, Bool.true_and] at hr
        obtain hk | hk | hk | hk | hk : x.f0 = 2 ∨ x.f0 = 3 ∨ x.f0 = 4 ∨ x.f0 = 5 ∨ x.f0 = 6 := by unfold fT at a3; simp at a3; omega
        · unfold insT at hr
          have q2 : (x.f0 == 2) = true := by rw [hk]; rfl
          have q3 : (x.f0 == 3) = false := by rw [hk]; rfl
          have q4 : (x.f0 == 4) = false := by rw [hk]; rfl
          have q5 : (x.f0 == 5) = false := by rw [hk]; rfl
          replace hk := Aside0.mk hk
          simp only [q2, q3, q4, q5, cond_true, cond_false] at hr
          cases a4 : decide (0 ≤ x.f5)
          case false =>
            simp only [a4, cond_false, Bool.and_false, Bool.false_and] at hr
            replace hr := Aside0.mk hr
            go_wp2_with (go_at_call 63; refine (hsp.out _ hB2.out).mono ?_; rintro ee w3 ⟨v, rfl, HB3⟩; have hb3 := blk_below hbb.out HB3; replace HB3 := Aside0.mk (below_step hB2.out HB3); have n0 : w3.cell? ⟨w.heap.size, 0, none⟩ = some (.int .i64 x.f0) := blk_cell hb3 0; have n4 : w3.cell? ⟨w.heap.size, 4, none⟩ = some (.int .i64 x.f4) := blk_cell hb3 4; have n5 : w3.cell? ⟨w.heap.size, 5, none⟩ = some (.int .i64 x.f5) := blk_cell hb3 5; have f3 := (hF.out.below HB3.out).c3 x.f0 h0 h9; clear hb3 n2 hbb)
            go_ret
            exact ⟨by rw [hr.out]; rfl, HB3.out⟩
          case true =>
            simp only [a4, cond_true, Bool.and_true, Bool.true_and] at hr
            cases a5 : decide (x.f5 < many)
            case false =>
              simp only [a5, cond_false, Bool.and_false, Bool.false_and] at hr
              replace hr := Aside0.mk hr
              go_wp2_with (go_at_call 63; refine (hsp.out _ hB2.out).mono ?_; rintro ee w3 ⟨v, rfl, HB3⟩; have hb3 := blk_below hbb.out HB3; replace HB3 := Aside0.mk (below_step hB2.out HB3); have n0 : w3.cell? ⟨w.heap.size, 0, none⟩ = some (.int .i64 x.f0) := blk_cell hb3 0; have n4 : w3.cell? ⟨w.heap.size, 4, none⟩ = some (.int .i64 x.f4) := blk_cell hb3 4; have n5 : w3.cell? ⟨w.heap.size, 5, none⟩ = some (.int .i64 x.f5) := blk_cell hb3 5; have f3 := (hF.out.below HB3.out).c3 x.f0 h0 h9; clear hb3 n2 hbb)
              go_ret
              exact ⟨by rw [hr.out]; rfl, HB3.out⟩
            case true =>
              simp only [a5, cond_true, Bool.and_true, Bool.true_and] at hr
              cases a6 : decide (i < x.f5)
              case false =>
                simp only [a6, cond_false, Bool.and_false, Bool.false_and] at hr
                replace hr := Aside0.mk hr
                go_wp2_with (go_at_call 63; refine (hsp.out _ hB2.out).mono ?_; rintro ee w3 ⟨v, rfl, HB3⟩; have hb3 := blk_below hbb.out HB3; replace HB3 := Aside0.mk (below_step hB2.out HB3); have n0 : w3.cell? ⟨w.heap.size, 0, none⟩ = some (.int .i64 x.f0) := blk_cell hb3 0; have n4 : w3.cell? ⟨w.heap.size, 4, none⟩ = some (.int .i64 x.f4) := blk_cell hb3 4; have n5 : w3.cell? ⟨w.heap.size, 5, none⟩ = some (.int .i64 x.f5) := blk_cell hb3 5; have f3 := (hF.out.below HB3.out).c3 x.f0 h0 h9; clear hb3 n2 hbb)
                go_ret
                exact ⟨by rw [hr.out]; rfl, HB3.out⟩
              case true =>
                simp only [a6, cond_true, Bool.and_true, Bool.true_and] at hr
                replace hr := Aside0.mk hr
                go_wp2_with (go_at_call 63; refine (hsp.out _ hB2.out).mono ?_; rintro ee w3 ⟨v, rfl, HB3⟩; have hb3 := blk_below hbb.out HB3; replace HB3 := Aside0.mk (below_step hB2.out HB3); have n0 : w3.cell? ⟨w.heap.size, 0, none⟩ = some (.int .i64 x.f0) := blk_cell hb3 0; have n4 : w3.cell? ⟨w.heap.size, 4, none⟩ = some (.int .i64 x.f4) := blk_cell hb3 4; have n5 : w3.cell? ⟨w.heap.size, 5, none⟩ = some (.int .i64 x.f5) := blk_cell hb3 5; have f3 := (hF.out.below HB3.out).c3 x.f0 h0 h9; clear hb3 n2 hbb)
                go_ret
                exact ⟨by rw [hr.out]; rfl, HB3.out⟩
        · unfold insT at hr
          have q2 : (x.f0 == 2) = false := by rw [hk]; rfl
          have q3 : (x.f0 == 3) = true := by rw [hk]; rfl
          have q4 : (x.f0 == 4) = false := by rw [hk]; rfl
          have q5 : (x.f0 == 5) = false := by rw [hk]; rfl
          replace hk := Aside0.mk hk
          simp only [q2, q3, q4, q5, cond_true, cond_false] at hr
          cases a4 : decide (0 ≤ x.f5)
          case false =>
            simp only [a4, cond_false, Bool.and_false, Bool.false_and] at hr
            replace hr := Aside0.mk hr
            go_wp2_with (go_at_call 63; refine (hsp.out _ hB2.out).mono ?_; rintro ee w3 ⟨v, rfl, HB3⟩; have hb3 := blk_below hbb.out HB3; replace HB3 := Aside0.mk (below_step hB2.out HB3); have n0 : w3.cell? ⟨w.heap.size, 0, none⟩ = some (.int .i64 x.f0) := blk_cell hb3 0; have n4 : w3.cell? ⟨w.heap.size, 4, none⟩ = some (.int .i64 x.f4) := blk_cell hb3 4; have n5 : w3.cell? ⟨w.heap.size, 5, none⟩ = some (.int .i64 x.f5) := blk_cell hb3 5; have f3 := (hF.out.below HB3.out).c3 x.f0 h0 h9; clear hb3 n2 hbb)
            go_ret
            exact ⟨by rw [hr.out]; rfl, HB3.out⟩
          case true =>
            simp only [a4, cond_true, Bool.and_true, Bool.true_and] at hr
            cases a5 : decide (x.f5 < many)
            case false =>
              simp only [a5, cond_false, Bool.and_false, Bool.false_and] at hr
              replace hr := Aside0.mk hr
              go_wp2_with (go_at_call 63; refine (hsp.out _ hB2.out).mono ?_; rintro ee w3 ⟨v, rfl, HB3⟩; have hb3 := blk_below hbb.out HB3; replace HB3 := Aside0.mk (below_step hB2.out HB3); have n0 : w3.cell? ⟨w.heap.size, 0, none⟩ = some (.int .i64 x.f0) := blk_cell hb3 0; have n4 : w3.cell? ⟨w.heap.size, 4, none⟩ = some (.int .i64 x.f4) := blk_cell hb3 4; have n5 : w3.cell? ⟨w.heap.size, 5, none⟩ = some (.int .i64 x.f5) := blk_cell hb3 5; have f3 := (hF.out.below HB3.out).c3 x.f0 h0 h9; clear hb3 n2 hbb)
              go_ret
              exact ⟨by rw [hr.out]; rfl, HB3.out⟩
            case true =>
              simp only [a5, cond_true, Bool.and_true, Bool.true_and] at hr
              cases a6 : decide (i < x.f5)
              case false =>
                simp only [a6, cond_false, Bool.and_false, Bool.false_and] at hr
                replace hr := Aside0.mk hr
                go_wp2_with (go_at_call 63; refine (hsp.out _ hB2.out).mono ?_; rintro ee w3 ⟨v, rfl, HB3⟩; have hb3 := blk_below hbb.out HB3; replace HB3 := Aside0.mk (below_step hB2.out HB3); have n0 : w3.cell? ⟨w.heap.size, 0, none⟩ = some (.int .i64 x.f0) := blk_cell hb3 0; have n4 : w3.cell? ⟨w.heap.size, 4, none⟩ = some (.int .i64 x.f4) := blk_cell hb3 4; have n5 : w3.cell? ⟨w.heap.size, 5, none⟩ = some (.int .i64 x.f5) := blk_cell hb3 5; have f3 := (hF.out.below HB3.out).c3 x.f0 h0 h9; clear hb3 n2 hbb)
                go_ret
                exact ⟨by rw [hr.out]; rfl, HB3.out⟩
              case true =>
                simp only [a6, cond_true, Bool.and_true, Bool.true_and] at hr
                replace hr := Aside0.mk hr
                go_wp2_with (go_at_call 63; refine (hsp.out _ hB2.out).mono ?_; rintro ee w3 ⟨v, rfl, HB3⟩; have hb3 := blk_below hbb.out HB3; replace HB3 := Aside0.mk (below_step hB2.out HB3); have n0 : w3.cell? ⟨w.heap.size, 0, none⟩ = some (.int .i64 x.f0) := blk_cell hb3 0; have n4 : w3.cell? ⟨w.heap.size, 4, none⟩ = some (.int .i64 x.f4) := blk_cell hb3 4; have n5 : w3.cell? ⟨w.heap.size, 5, none⟩ = some (.int .i64 x.f5) := blk_cell hb3 5; have f3 := (hF.out.below HB3.out).c3 x.f0 h0 h9; clear hb3 n2 hbb)
                go_ret
                exact ⟨by rw [hr.out]; rfl, HB3.out⟩
        · unfold insT at hr
          have q2 : (x.f0 == 2) = false := by rw [hk]; rfl
          have q3 : (x.f0 == 3) = false := by rw [hk]; rfl
          have q4 : (x.f0 == 4) = true := by rw [hk]; rfl
          have q5 : (x.f0 == 5) = false := by rw [hk]; rfl
          replace hk := Aside0.mk hk
          simp only [q2, q3, q4, q5, cond_true, cond_false] at hr
          cases a4 : decide (0 ≤ x.f5)
          case false =>
            simp only [a4, cond_false, Bool.and_false, Bool.false_and] at hr
            replace hr := Aside0.mk hr
            go_wp2_with (go_at_call 63; refine (hsp.out _ hB2.out).mono ?_; rintro ee w3 ⟨v, rfl, HB3⟩; have hb3 := blk_below hbb.out HB3; replace HB3 := Aside0.mk (below_step hB2.out HB3); have n0 : w3.cell? ⟨w.heap.size, 0, none⟩ = some (.int .i64 x.f0) := blk_cell hb3 0; have n4 : w3.cell? ⟨w.heap.size, 4, none⟩ = some (.int .i64 x.f4) := blk_cell hb3 4; have n5 : w3.cell? ⟨w.heap.size, 5, none⟩ = some (.int .i64 x.f5) := blk_cell hb3 5; have f3 := (hF.out.below HB3.out).c3 x.f0 h0 h9; clear hb3 n2 hbb)
            go_ret
            exact ⟨by rw [hr.out]; rfl, HB3.out⟩
          case true =>
            simp only [a4, cond_true, Bool.and_true, Bool.true_and] at hr
            cases a5 : decide (x.f5 < many)
            case false =>
              simp only [a5, cond_false, Bool.and_false, Bool.false_and] at hr
              replace hr := Aside0.mk hr
              go_wp2_with (go_at_call 63; refine (hsp.out _ hB2.out).mono ?_; rintro ee w3 ⟨v, rfl, HB3⟩; have hb3 := blk_below hbb.out HB3; replace HB3 := Aside0.mk (below_step hB2.out HB3); have n0 : w3.cell? ⟨w.heap.size, 0, none⟩ = some (.int .i64 x.f0) := blk_cell hb3 0; have n4 : w3.cell? ⟨w.heap.size, 4, none⟩ = some (.int .i64 x.f4) := blk_cell hb3 4; have n5 : w3.cell? ⟨w.heap.size, 5, none⟩ = some (.int .i64 x.f5) := blk_cell hb3 5; have f3 := (hF.out.below HB3.out).c3 x.f0 h0 h9; clear hb3 n2 hbb)
              go_ret
              exact ⟨by rw [hr.out]; rfl, HB3.out⟩
            case true =>
              simp only [a5, cond_true, Bool.and_true, Bool.true_and] at hr
              cases a6 : decide (i < x.f5)
              case false =>
                simp only [a6, cond_false, Bool.and_false, Bool.false_and] at hr
                replace hr := Aside0.mk hr
                go_wp2_with (go_at_call 63; refine (hsp.out _ hB2.out).mono ?_; rintro ee w3 ⟨v, rfl, HB3⟩; have hb3 := blk_below hbb.out HB3; replace HB3 := Aside0.mk (below_step hB2.out HB3); have n0 : w3.cell? ⟨w.heap.size, 0, none⟩ = some (.int .i64 x.f0) := blk_cell hb3 0; have n4 : w3.cell? ⟨w.heap.size, 4, none⟩ = some (.int .i64 x.f4) := blk_cell hb3 4; have n5 : w3.cell? ⟨w.heap.size, 5, none⟩ = some (.int .i64 x.f5) := blk_cell hb3 5; have f3 := (hF.out.below HB3.out).c3 x.f0 h0 h9; clear hb3 n2 hbb)
                go_ret
                exact ⟨by rw [hr.out]; rfl, HB3.out⟩
              case true =>
                simp only [a6, cond_true, Bool.and_true, Bool.true_and] at hr
                replace hr := Aside0.mk hr
                go_wp2_with (go_at_call 63; refine (hsp.out _ hB2.out).mono ?_; rintro ee w3 ⟨v, rfl, HB3⟩; have hb3 := blk_below hbb.out HB3; replace HB3 := Aside0.mk (below_step hB2.out HB3); have n0 : w3.cell? ⟨w.heap.size, 0, none⟩ = some (.int .i64 x.f0) := blk_cell hb3 0; have n4 : w3.cell? ⟨w.heap.size, 4, none⟩ = some (.int .i64 x.f4) := blk_cell hb3 4; have n5 : w3.cell? ⟨w.heap.size, 5, none⟩ = some (.int .i64 x.f5) := blk_cell hb3 5; have f3 := (hF.out.below HB3.out).c3 x.f0 h0 h9; clear hb3 n2 hbb)
                go_ret
                exact ⟨by rw [hr.out]; rfl, HB3.out⟩
        · unfold insT at hr
          have q2 : (x.f0 == 2) = false := by rw [hk]; rfl
          have q3 : (x.f0 == 3) = false := by rw [hk]; rfl
          have q4 : (x.f0 == 4) = false := by rw [hk]; rfl
          have q5 : (x.f0 == 5) = true := by rw [hk]; rfl
          replace hk := Aside0.mk hk
          simp only [q2, q3, q4, q5, cond_true, cond_false] at hr
          cases a4 : decide (0 ≤ x.f5)
          case false =>
            simp only [a4, cond_false, Bool.and_false, Bool.false_and] at hr
            replace hr := Aside0.mk hr
            go_wp2_with (go_at_call 63; refine (hsp.out _ hB2.out).mono ?_; rintro ee w3 ⟨v, rfl, HB3⟩; have hb3 := blk_below hbb.out HB3; replace HB3 := Aside0.mk (below_step hB2.out HB3); have n0 : w3.cell? ⟨w.heap.size, 0, none⟩ = some (.int .i64 x.f0) := blk_cell hb3 0; have n4 : w3.cell? ⟨w.heap.size, 4, none⟩ = some (.int .i64 x.f4) := blk_cell hb3 4; have n5 : w3.cell? ⟨w.heap.size, 5, none⟩ = some (.int .i64 x.f5) := blk_cell hb3 5; have f3 := (hF.out.below HB3.out).c3 x.f0 h0 h9; clear hb3 n2 hbb)
            go_ret
            exact ⟨by rw [hr.out]; rfl, HB3.out⟩
          case true =>
            simp only [a4, cond_true, Bool.and_true, Bool.true_and] at hr
            cases a5 : decide (x.f5 < many)
            case false =>
              simp only [a5, cond_false, Bool.and_false, Bool.false_and] at hr
              replace hr := Aside0.mk hr
              go_wp2_with (go_at_call 63; refine (hsp.out _ hB2.out).mono ?_; rintro ee w3 ⟨v, rfl, HB3⟩; have hb3 := blk_below hbb.out HB3; replace HB3 := Aside0.mk (below_step hB2.out HB3); have n0 : w3.cell? ⟨w.heap.size, 0, none⟩ = some (.int .i64 x.f0) := blk_cell hb3 0; have n4 : w3.cell? ⟨w.heap.size, 4, none⟩ = some (.int .i64 x.f4) := blk_cell hb3 4; have n5 : w3.cell? ⟨w.heap.size, 5, none⟩ = some (.int .i64 x.f5) := blk_cell hb3 5; have f3 := (hF.out.below HB3.out).c3 x.f0 h0 h9; clear hb3 n2 hbb)
              go_ret
              exact ⟨by rw [hr.out]; rfl, HB3.out⟩
            case true =>
              simp only [a5, cond_true, Bool.and_true, Bool.true_and] at hr
              cases a6 : decide (x.f5 ≤ i)
              case false =>
                simp only [a6, cond_false, Bool.and_false, Bool.false_and] at hr
                replace hr := Aside0.mk hr
                go_wp2_with (go_at_call 63; refine (hsp.out _ hB2.out).mono ?_; rintro ee w3 ⟨v, rfl, HB3⟩; have hb3 := blk_below hbb.out HB3; replace HB3 := Aside0.mk (below_step hB2.out HB3); have n0 : w3.cell? ⟨w.heap.size, 0, none⟩ = some (.int .i64 x.f0) := blk_cell hb3 0; have n4 : w3.cell? ⟨w.heap.size, 4, none⟩ = some (.int .i64 x.f4) := blk_cell hb3 4; have n5 : w3.cell? ⟨w.heap.size, 5, none⟩ = some (.int .i64 x.f5) := blk_cell hb3 5; have f3 := (hF.out.below HB3.out).c3 x.f0 h0 h9; clear hb3 n2 hbb)
                go_ret
                exact ⟨by rw [hr.out]; rfl, HB3.out⟩
              case true =>
                simp only [a6, cond_true, Bool.and_true, Bool.true_and] at hr
                replace hr := Aside0.mk hr
                go_wp2_with (go_at_call 63; refine (hsp.out _ hB2.out).mono ?_; rintro ee w3 ⟨v, rfl, HB3⟩; have hb3 := blk_below hbb.out HB3; replace HB3 := Aside0.mk (below_step hB2.out HB3); have n0 : w3.cell? ⟨w.heap.size, 0, none⟩ = some (.int .i64 x.f0) := blk_cell hb3 0; have n4 : w3.cell? ⟨w.heap.size, 4, none⟩ = some (.int .i64 x.f4) := blk_cell hb3 4; have n5 : w3.cell? ⟨w.heap.size, 5, none⟩ = some (.int .i64 x.f5) := blk_cell hb3 5; have f3 := (hF.out.below HB3.out).c3 x.f0 h0 h9; clear hb3 n2 hbb)
                go_ret
                exact ⟨by rw [hr.out]; rfl, HB3.out⟩
        · unfold insT at hr
          have q2 : (x.f0 == 2) = false := by rw [hk]; rfl
          have q3 : (x.f0 == 3) = false := by rw [hk]; rfl
          have q4 : (x.f0 == 4) = false := by rw [hk]; rfl
          have q5 : (x.f0 == 5) = false := by rw [hk]; rfl
          replace hk := Aside0.mk hk
          simp only [q2, q3, q4, q5, cond_true, cond_false] at hr
          cases a4 : decide (0 ≤ x.f5)
          case false =>
            simp only [a4, cond_false, Bool.and_false, Bool.false_and] at hr
            replace hr := Aside0.mk hr
            go_wp2_with (go_at_call 63; refine (hsp.out _ hB2.out).mono ?_; rintro ee w3 ⟨v, rfl, HB3⟩; have hb3 := blk_below hbb.out HB3; replace HB3 := Aside0.mk (below_step hB2.out HB3); have n0 : w3.cell? ⟨w.heap.size, 0, none⟩ = some (.int .i64 x.f0) := blk_cell hb3 0; have n4 : w3.cell? ⟨w.heap.size, 4, none⟩ = some (.int .i64 x.f4) := blk_cell hb3 4; have n5 : w3.cell? ⟨w.heap.size, 5, none⟩ = some (.int .i64 x.f5) := blk_cell hb3 5; have f3 := (hF.out.below HB3.out).c3 x.f0 h0 h9; clear hb3 n2 hbb)
            go_ret
            exact ⟨by rw [hr.out]; rfl, HB3.out⟩
          case true =>
            simp only [a4, cond_true, Bool.and_true, Bool.true_and] at hr
            cases a5 : decide (x.f5 < many)
            case false =>
              simp only [a5, cond_false, Bool.and_false, Bool.false_and] at hr
              replace hr := Aside0.mk hr
              go_wp2_with (go_at_call 63; refine (hsp.out _ hB2.out).mono ?_; rintro ee w3 ⟨v, rfl, HB3⟩; have hb3 := blk_below hbb.out HB3; replace HB3 := Aside0.mk (below_step hB2.out HB3); have n0 : w3.cell? ⟨w.heap.size, 0, none⟩ = some (.int .i64 x.f0) := blk_cell hb3 0; have n4 : w3.cell? ⟨w.heap.size, 4, none⟩ = some (.int .i64 x.f4) := blk_cell hb3 4; have n5 : w3.cell? ⟨w.heap.size, 5, none⟩ = some (.int .i64 x.f5) := blk_cell hb3 5; have f3 := (hF.out.below HB3.out).c3 x.f0 h0 h9; clear hb3 n2 hbb)
              go_ret
              exact ⟨by rw [hr.out]; rfl, HB3.out⟩
            case true =>
              simp only [a5, cond_true, Bool.and_true, Bool.true_and] at hr
              replace hr := Aside0.mk hr
              go_wp2_with (go_at_call 63; refine (hsp.out _ hB2.out).mono ?_; rintro ee w3 ⟨v, rfl, HB3⟩; have hb3 := blk_below hbb.out HB3; replace HB3 := Aside0.mk (below_step hB2.out HB3); have n0 : w3.cell? ⟨w.heap.size, 0, none⟩ = some (.int .i64 x.f0) := blk_cell hb3 0; have n4 : w3.cell? ⟨w.heap.size, 4, none⟩ = some (.int .i64 x.f4) := blk_cell hb3 4; have n5 : w3.cell? ⟨w.heap.size, 5, none⟩ = some (.int .i64 x.f5) := blk_cell hb3 5; have f3 := (hF.out.below HB3.out).c3 x.f0 h0 h9; clear hb3 n2 hbb)
              go_ret
              exact ⟨by rw [hr.out]; rfl, HB3.out⟩
    case true =>
      simp only [a2, cond_true, Bool.and_true, Bool.true_and] at hr
      replace hr := Aside0.mk hr
      go_wp2_with (go_at_call 63; refine (hsp.out _ hB2.out).mono ?_; rintro ee w3 ⟨v, rfl, HB3⟩; have hb3 := blk_below hbb.out HB3; replace HB3 := Aside0.mk (below_step hB2.out HB3); have n0 : w3.cell? ⟨w.heap.size, 0, none⟩ = some (.int .i64 x.f0) := blk_cell hb3 0; have n4 : w3.cell? ⟨w.heap.size, 4, none⟩ = some (.int .i64 x.f4) := blk_cell hb3 4; have n5 : w3.cell? ⟨w.heap.size, 5, none⟩ = some (.int .i64 x.f5) := blk_cell hb3 5; have f3 := (hF.out.below HB3.out).c3 x.f0 h0 h9; clear hb3 n2 hbb)
      go_ret
      exact ⟨by rw [hr.out]; rfl, HB3.out⟩
  case true =>
    simp only [a1, cond_true, Bool.and_true, Bool.true_and] at hr
    replace hr := Aside0.mk hr
    go_wp2_with (go_at_call 63; refine (hsp.out _ hB2.out).mono ?_; rintro ee w3 ⟨v, rfl, HB3⟩; have hb3 := blk_below hbb.out HB3; replace HB3 := Aside0.mk (below_step hB2.out HB3); have n0 : w3.cell? ⟨w.heap.size, 0, none⟩ = some (.int .i64 x.f0) := blk_cell hb3 0; have n4 : w3.cell? ⟨w.heap.size, 4, none⟩ = some (.int .i64 x.f4) := blk_cell hb3 4; have n5 : w3.cell? ⟨w.heap.size, 5, none⟩ = some (.int .i64 x.f5) := blk_cell hb3 5; have f3 := (hF.out.below HB3.out).c3 x.f0 h0 h9; clear hb3 n2 hbb)
    go_ret
    exact ⟨by rw [hr.out]; rfl, HB3.out⟩
end Go.Proofs.YtkpnfejfbmandaaDoor.Px
namespace Go.Proofs.YtkpnfejfbmandaaDoor.Px
open Go.RowKit Go.Proofs.YtkpnfejfbmandaaDoorW.PrintWords Go.Proofs.YtkpnfejfbmandaaDoorW.PrintLast Go.Proofs.YtkpnfejfbmandaaDoorW.PrintMore
set_option linter.unusedVariables false
set_option linter.unusedSimpArgs false
theorem check1_any (x : S40) (i many : Int) (w : World) (hG : Glob w) (hF : Forms w) (hz : x.f2.size ≤ 65536) :
    Calls Tryd.prog 40 #[.agg #[.int .i64 x.f0, .string x.f1, .string x.f2, .bool x.f3, .int .i64 x.f4, .int .i64 x.f5], .int .i64 i, .int .i64 many] w fun e w' => e = .returned (.int .i64 (checkI x i many)) ∧ Below w.heap.size w w' := by
  by_cases hk : x.f0 < 0 ∨ 9 < x.f0
  · have h : checkI x i many = 5 := by unfold checkI; rw [if_pos hk]
    rw [h]
    exact check_out x i many w hk
  · exact check_in x i many w hG hF (by omega) (by omega) hz
def chkL (many : Int) : List S40 → Nat → Option (Int × Int)
  | [], _ => none
  | x :: xs, i => if checkI x i many = 0 then chkL many xs (i + 1) else some ((i : Int), checkI x i many)
def lastOk (C : List S40) : Bool := match C.getLast? with
  | some x => x.f0 == 9 || x.f0 == 7
  | none => false
def chkF (C : List S40) : Int × Int := if 65536 < C.length then (0, 14) else match chkL C.length C 0 with
  | some r => r
  | none => if lastOk C = true then ((C.length : Int), 0) else ((C.length : Int), 7)
set_option maxHeartbeats 4000000 in
set_option maxRecDepth 100000 in
theorem checks_any (C : List S40) (A : Option Addr) (c : Nat) (w : World) (hG : Glob w) (hF : Forms w) (hC : Kd.C k40 w A C.length C) (hz : ∀ x ∈ C, x.f2.size ≤ 65536) :
    Calls Tryd.prog 18 #[.slice A C.length c] w fun e w' => e = .returned (.tuple #[.int .i64 (chkF C).1, .int .i64 (chkF C).2]) ∧ Below w.heap.size w w' := by
  have hC63 : C.length ≤ 9223372036854775807 := hC.2.1
  obtain ⟨r, hr⟩ : ∃ r, r = chkF C := ⟨_, rfl⟩
  rw [← hr]
  unfold chkF at hr
  by_cases hl : 65536 < C.length
  · rw [if_pos hl] at hr
    subst hr
    have h1 : decide ((65536 : Int) < (C.length : Int)) = true := decide_eq_true (by omega)
    go_enter Tryd.func18, Tryd.ntmps18
    go_wp2
    go_ret2
    exact ⟨rfl, Below.refl _ _⟩
  rw [if_neg hl] at hr
  have h1 : decide ((65536 : Int) < (C.length : Int)) = false := decide_eq_false (by omega)
  generalize hR : chkL C.length C 0 = R at hr
  replace hC := Aside0.mk hC
  replace hG := Aside0.mk hG
  replace hF := Aside0.mk hF
  replace hr := Aside0.mk hr
  replace hR := Aside0.mk hR
  replace hz := Aside0.mk hz
  go_enter Tryd.func18, Tryd.ntmps18
  go_wp2
  go_loopg [14] C.length (fun kq v14 wr => ∃ i : Nat, kq + i = C.length ∧ v14 = .int .i64 i ∧ Aside0 (chkL C.length (C.drop i) i = R) ∧ Aside0 (Below w.heap.size w wr))
  case atStart => exact ⟨0, rfl, rfl, by rw [List.drop_zero]; exact hR, ⟨Below.refl _ _⟩⟩
  case round =>
    clear hR
    obtain ⟨i, hki, rfl, HE, HB⟩ := hrel
    by_cases hlt2 : i < C.length
    · have hll : decide ((i : Int) < (C.length : Int)) = true := decide_eq_true (by omega)
      have hx := List.getElem?_eq_getElem hlt2
      have hd : C.drop i = C[i] :: C.drop (i + 1) := List.drop_eq_getElem_cons hlt2
      obtain ⟨ad, hA, x0, x1, x2, x3, x4, x5⟩ := at_T40 hC.out (i : Int) (by omega) (by omega)
      have hrd : rd_T40 C (i : Int) = C[i] := by unfold rd_T40; simp [List.getD, hlt2]
      simp only [Int.toNat_natCast] at x0 x1 x2 x3 x4 x5
      rw [hrd] at x0 x1 x2 x3 x4 x5
      have hE := HE.out
      rw [hd, chkL] at hE
      have hzx := hz.out _ (List.getElem_mem hlt2)
      have up : ∀ {a : Addr} {u : Value}, w.cell? a = some u → wr.cell? a = some u := fun h => (HB.out.cell (World.block_lt_of_cell? _ _ h)).trans h
      subst hA
      have hab := World.block_lt_of_cell? _ _ (up x0)
      replace x0 := up x0
      replace x1 := up x1
      replace x2 := up x2
      replace x3 := up x3
      replace x4 := up x4
      replace x5 := up x5
      clear up hrd hd hx HE
      generalize C[i] = x at *
      have hck := Aside0.mk (fun W (hB : Below w.heap.size w W) => check1_any x i C.length W (hG.out.below hB) (hF.out.below hB) hzx)
      by_cases h0 : checkI x i C.length = 0
      · rw [if_pos h0] at hE
        rw [h0] at hck
        replace hE := Aside0.mk hE
        replace h0 := Aside0.mk h0
        go_wp2_with (go_at_call 40; refine (hck.out _ (below_alloc HB.out _)).mono ?_; rintro e w3 ⟨rfl, HB3⟩; replace HB3 := Aside0.mk (below_step (below_alloc HB.out _) HB3); clear hck)
        go_roundg (gk - 1)
        case measure => omega
        case rel => exact ⟨i + 1, by omega, by simp, hE, HB3⟩
      · rw [if_neg h0] at hE
        have hr2 := hr.out
        rw [← hE] at hr2
        dsimp only at hr2
        have h0' : (checkI x i C.length != 0) = true := by simp [h0]
        replace hE := Aside0.mk hE
        replace h0 := Aside0.mk h0
        replace hr2 := Aside0.mk hr2
        go_wp2_with (go_at_call 40; refine (hck.out _ (below_alloc HB.out _)).mono ?_; rintro e w3 ⟨rfl, HB3⟩; replace HB3 := Aside0.mk (below_step (below_alloc HB.out _) HB3); clear hck)
        go_ret2
        rw [hr2.out]
        exact ⟨rfl, HB3.out⟩
    · have hll : decide ((i : Int) < (C.length : Int)) = false := decide_eq_false (by omega)
      have hE := HE.out
      rw [List.drop_eq_nil_of_le (by omega), chkL] at hE
      have hr2 := hr.out
      rw [← hE] at hr2
      dsimp only at hr2
      replace hE := Aside0.mk hE
      clear HE
      by_cases hn : C = []
      · subst hn
        rw [show lastOk [] = false from rfl, if_neg (by decide)] at hr2
        replace hr2 := Aside0.mk hr2
        go_wp2
        go_ret2
        rw [hr2.out]
        exact ⟨rfl, HB.out⟩
      · have hpos : 0 < C.length := List.length_pos_iff.2 hn
        obtain ⟨m, hm⟩ : ∃ m, C.length = m + 1 := ⟨C.length - 1, by omega⟩
        obtain ⟨ad, hA, x0, -⟩ := at_T40 hC.out (m : Int) (by omega) (by omega)
        have hlast : C.getLast? = some (rd_T40 C (m : Int)) := by
          rw [List.getLast?_eq_getElem?, hm, Nat.add_sub_cancel]
          unfold rd_T40
          simp [List.getD, hm]
        have hlo : lastOk C = ((rd_T40 C (m : Int)).f0 == 9 || (rd_T40 C (m : Int)).f0 == 7) := by unfold lastOk; rw [hlast]
        rw [hlo] at hr2
        simp only [Int.toNat_natCast] at x0
        generalize (rd_T40 C (m : Int)).f0 = op at *
        subst hA
        replace x0 := (HB.out.cell (World.block_lt_of_cell? _ _ x0)).trans x0
        have hab := World.block_lt_of_cell? _ _ x0
        have hz0 : ((C.length : Int) == 0) = false := by simp; omega
        have hw1 : IntKind.i64.wrap ((C.length : Int) - 1) = (m : Int) := by rw [IntKind.wrap_i64]; omega
        have hm0 : (0 : Int) ≤ (m : Int) := Int.natCast_nonneg m
        have hm1 : (m : Int) < (C.length : Int) := by omega
        replace hm := Aside0.mk hm
        clear hlast hlo
        by_cases o9 : op = 9
        · subst o9
          rw [if_pos (by decide)] at hr2
          replace hr2 := Aside0.mk hr2
          go_wp2
          go_ret2
          rw [hr2.out]
          exact ⟨rfl, HB.out⟩
        by_cases o7 : op = 7
        · subst o7
          rw [if_pos (by decide)] at hr2
          replace hr2 := Aside0.mk hr2
          go_wp2
          go_ret2
          rw [hr2.out]
          exact ⟨rfl, HB.out⟩
        rw [if_neg (by simp [o9, o7])] at hr2
        have o9' : (op != 9) = true := by simp [o9]
        have o7' : (op != 7) = true := by simp [o7]
        replace hr2 := Aside0.mk hr2
        replace o9 := Aside0.mk o9
        replace o7 := Aside0.mk o7
        go_wp2
        go_ret2
        rw [hr2.out]
        exact ⟨rfl, HB.out⟩
end Go.Proofs.YtkpnfejfbmandaaDoor.Px
namespace Go.Proofs.YtkpnfejfbmandaaDoor.Px
open Go.RowKit Go.Proofs.YtkpnfejfbmandaaDoorW.PrintWords Go.Proofs.YtkpnfejfbmandaaDoorW.PrintLast Go.Proofs.YtkpnfejfbmandaaDoorW.PrintMore
set_option linter.unusedVariables false
set_option linter.unusedSimpArgs false
theorem wrap64_i64 (a : Int) : IntKind.i64.wrap a = wrap64 a := by unfold wrap64; rw [IntKind.wrap_i64]
mutual
def ciL : List S78 → Nat
  | [] => 0
  | x :: xs => ciN x + ciL xs
def ciN : S78 → Nat
  | ⟨k, _, _, _, _, f5, b, l⟩ => 1 + (if (f5 || k == 3) = true then 1 else 0) + ciL b + ciL l
end
theorem ciN_eq (x : S78) : ciN x = 1 + (if (x.f5 || x.f0 == 3) = true then 1 else 0) + ciL x.f6 + ciL x.f7 := by cases x; simp [ciN]
theorem ciL_cons (x : S78) (xs : List S78) : ciL (x :: xs) = ciN x + ciL xs := by simp [ciL]
mutual
theorem ci_le : ∀ l : List S78, ciL l ≤ 2 * nL l
  | [] => by simp [ciL, nL]
  | x :: xs => by have := ci_le xs; have := cin_le x; rw [ciL_cons, nL_cons]; omega
theorem cin_le : ∀ x : S78, ciN x ≤ 2 * nN x
  | ⟨k, _, _, _, _, f5, b, l⟩ => by
    have := ci_le b; have := ci_le l
    rw [ciN_eq, nN_eq]; dsimp only
    split <;> omega
end
abbrev count.Con (l : List S78) : Prop := ∀ (A : Option Addr) (c : Nat) (w : World), Kd.C k78 w A l.length l → l.length ≤ c → nL l ≤ 100000 →
  Calls Tryd.prog 21 #[.slice A l.length c] w fun e w' => e = .returned (.int .i64 (ciL l)) ∧ Below w.heap.size w w'
set_option maxHeartbeats 4000000 in
set_option maxRecDepth 100000 in
theorem count.step (l : List S78) (ih : ∀ x ∈ l, count.Con x.f6 ∧ count.Con x.f7) : count.Con l := by
  intro A c w hC hc hn
  have hll : l.length ≤ 100000 := by have := nL_len l; omega
  obtain ⟨R, hR⟩ : ∃ R, R = ciL l := ⟨_, rfl⟩
  have hcl := ci_le l
  rw [← hR] at hcl ⊢
  replace hR := Aside0.mk hR
  replace hC := Aside0.mk hC
  replace ih := Aside0.mk ih
  go_enter Tryd.func21, Tryd.ntmps21
  go_wp2
  go_loopg [3, 8] l.length (fun kq v3 v8 wr => ∃ (i n : Nat), kq + i = l.length ∧ v8 = .int .i64 i ∧ v3 = .int .i64 n ∧ Aside0 (n + ciL (l.drop i) = R) ∧ Aside0 (Below w.heap.size w wr))
  case atStart => exact ⟨0, 0, rfl, rfl, rfl, ⟨by rw [hR.out, List.drop_zero]; omega⟩, ⟨Below.refl _ _⟩⟩
  case round =>
    obtain ⟨i, n, hki, rfl, rfl, HE, HB⟩ := hrel
    by_cases hlt2 : i < l.length
    · have hl : decide ((i : Int) < (l.length : Int)) = true := decide_eq_true (by omega)
      have hd : l.drop i = l[i] :: l.drop (i + 1) := List.drop_eq_getElem_cons hlt2
      obtain ⟨ad, A6, c6, A7, c7, hA, x0, x1, x2, x3, x4, x5, x6, x7, l6, g6, l7, g7⟩ := at_T78 hC.out (i : Int) (by omega) (by omega)
      have hrd : rd_T78 l (i : Int) = l[i] := by unfold rd_T78; simp [List.getD, hlt2]
      simp only [Int.toNat_natCast] at x0 x1 x2 x3 x4 x5 x6 x7
      rw [hrd] at x0 x1 x2 x3 x4 x5 x6 x7 l6 g6 l7 g7
      obtain ⟨i6, i7⟩ := ih.out l[i] (List.getElem_mem hlt2)
      have hnx := getN l i hlt2
      have hE := HE.out
      rw [hd, ciL_cons, ciN_eq] at hE
      rw [nN_eq] at hnx
      have up : ∀ {a : Addr} {u : Value}, w.cell? a = some u → wr.cell? a = some u := fun h => (HB.out.cell (World.block_lt_of_cell? _ _ h)).trans h
      subst hA
      have hab := World.block_lt_of_cell? _ _ (up x0)
      replace x0 := up x0
      replace x1 := up x1
      replace x2 := up x2
      replace x3 := up x3
      replace x4 := up x4
      replace x5 := up x5
      replace x6 := up x6
      replace x7 := up x7
      clear up hrd hd HE
      generalize l[i] = x at *
      generalize x.f5 = q5 at *
      cases q5
      case true =>
        simp only [Bool.true_or, if_true] at hE
        have c6' := ci_le x.f6
        have c7' := ci_le x.f7
        have h6 := Aside0.mk (fun W (hB : Below w.heap.size w W) => i6 A6 c6 W (Kd.C_below g6 hB) l6 (by omega))
        have h7 := Aside0.mk (fun W (hB : Below w.heap.size w W) => i7 A7 c7 W (Kd.C_below g7 hB) l7 (by omega))
        obtain ⟨W1, e1⟩ : ∃ W1, W1 = wr.alloc (.cells #[.int .i64 x.f0, .int .i64 x.f1, .string x.f2, .string x.f3, .bool x.f4, .bool true, .slice A6 x.f6.length c6, .slice A7 x.f7.length c7] 78) := ⟨_, rfl⟩
        have HBc := Aside0.mk (show Below w.heap.size w W1.drew from by rw [e1]; exact below_drew1 (below_alloc HB.out _))
        have hbx : W1.heap[wr.heap.size]? = some (.cells #[.int .i64 x.f0, .int .i64 x.f1, .string x.f2, .string x.f3, .bool x.f4, .bool true, .slice A6 x.f6.length c6, .slice A7 x.f7.length c7] 78 (0, 0)) := by rw [e1]; exact blk_new _ _
        have n0 : W1.cell? ⟨wr.heap.size, 0, none⟩ = some (.int .i64 x.f0) := blk_cell hbx 0
        have n5 : W1.cell? ⟨wr.heap.size, 5, none⟩ = some (.bool true) := blk_cell hbx 5
        have n6 : W1.cell? ⟨wr.heap.size, 6, none⟩ = some (.slice A6 x.f6.length c6) := blk_cell hbx 6
        have n7 : W1.cell? ⟨wr.heap.size, 7, none⟩ = some (.slice A7 x.f7.length c7) := blk_cell hbx 7
        have u1 : IntKind.i64.wrap ((n : Int) + 1) = ((n + 1 : Nat) : Int) := by rw [wrap64_i64, w64 (by omega) (by omega)]; omega
        have u2 : IntKind.i64.wrap (((n + 1 : Nat) : Int) + 1) = ((n + 2 : Nat) : Int) := by rw [wrap64_i64, w64 (by omega) (by omega)]; omega
        have u3 : IntKind.i64.wrap ((ciL x.f6 : Int) + (ciL x.f7 : Int)) = ((ciL x.f6 + ciL x.f7 : Nat) : Int) := by rw [wrap64_i64, w64 (by omega) (by omega)]; omega
        replace hE := Aside0.mk hE
        clear hbx l6 g6 l7 g7 hnx i6 i7 c6' c7'
        go_upto_region 8 with fail
        rw [← e1]
        clear e1
        go_region_held3 (fun w' => w'.cell? ⟨wr.heap.size, 6, none⟩ = some (.slice A6 x.f6.length c6) ∧ w'.cell? ⟨wr.heap.size, 7, none⟩ = some (.slice A7 x.f7.length c7)) (first | exact ⟨n6, n7⟩ | go_keep) (first | (go_at_call 21; refine (h6.out _ HBc.out).mono ?_; rintro e w2 ⟨rfl, q2⟩; replace n6 := pw_cell_below q2 n6; replace n7 := pw_cell_below q2 n7; replace HBc := Aside0.mk (below_step HBc.out q2); clear q2 h6) | (go_at_call 21; refine (h7.out _ HBc.out).mono ?_; rintro e w2 ⟨rfl, q2⟩; replace n6 := pw_cell_below q2 n6; replace n7 := pw_cell_below q2 n7; replace HBc := Aside0.mk (below_step HBc.out q2); clear q2 h7))
        all_goals
          go_wp2_with fail
          go_roundg (gk - 1)
          case measure => omega
          case rel => first | exact ⟨i + 1, n + 1 + (ciL x.f6 + ciL x.f7), by omega, by simp, congrArg (Value.int IntKind.i64) (by rw [wrap64_i64, w64 (by have := hE.out; omega) (by have := hE.out; omega)]; omega), ⟨by have := hE.out; omega⟩, HBc⟩ | exact ⟨i + 1, n + 2 + (ciL x.f6 + ciL x.f7), by omega, by simp, congrArg (Value.int IntKind.i64) (by rw [wrap64_i64, w64 (n := (n : Int) + 1 + 1) (by have := hE.out; omega) (by have := hE.out; omega), w64 (by have := hE.out; omega) (by have := hE.out; omega)]; omega), ⟨by have := hE.out; omega⟩, HBc⟩
      case false =>
        simp only [Bool.false_or] at hE
        cases h3 : (x.f0 == 3)
        all_goals
          simp only [h3, if_true, if_false, Bool.false_eq_true] at hE
          have c6' := ci_le x.f6
          have c7' := ci_le x.f7
          have h6 := Aside0.mk (fun W (hB : Below w.heap.size w W) => i6 A6 c6 W (Kd.C_below g6 hB) l6 (by omega))
          have h7 := Aside0.mk (fun W (hB : Below w.heap.size w W) => i7 A7 c7 W (Kd.C_below g7 hB) l7 (by omega))
          obtain ⟨W1, e1⟩ : ∃ W1, W1 = wr.alloc (.cells #[.int .i64 x.f0, .int .i64 x.f1, .string x.f2, .string x.f3, .bool x.f4, .bool false, .slice A6 x.f6.length c6, .slice A7 x.f7.length c7] 78) := ⟨_, rfl⟩
          have HBc := Aside0.mk (show Below w.heap.size w W1.drew from by rw [e1]; exact below_drew1 (below_alloc HB.out _))
          have hbx : W1.heap[wr.heap.size]? = some (.cells #[.int .i64 x.f0, .int .i64 x.f1, .string x.f2, .string x.f3, .bool x.f4, .bool false, .slice A6 x.f6.length c6, .slice A7 x.f7.length c7] 78 (0, 0)) := by rw [e1]; exact blk_new _ _
          have n0 : W1.cell? ⟨wr.heap.size, 0, none⟩ = some (.int .i64 x.f0) := blk_cell hbx 0
          have n5 : W1.cell? ⟨wr.heap.size, 5, none⟩ = some (.bool false) := blk_cell hbx 5
          have n6 : W1.cell? ⟨wr.heap.size, 6, none⟩ = some (.slice A6 x.f6.length c6) := blk_cell hbx 6
          have n7 : W1.cell? ⟨wr.heap.size, 7, none⟩ = some (.slice A7 x.f7.length c7) := blk_cell hbx 7
          have u1 : IntKind.i64.wrap ((n : Int) + 1) = ((n + 1 : Nat) : Int) := by rw [wrap64_i64, w64 (by omega) (by omega)]; omega
          have u2 : IntKind.i64.wrap (((n + 1 : Nat) : Int) + 1) = ((n + 2 : Nat) : Int) := by rw [wrap64_i64, w64 (by omega) (by omega)]; omega
          have u3 : IntKind.i64.wrap ((ciL x.f6 : Int) + (ciL x.f7 : Int)) = ((ciL x.f6 + ciL x.f7 : Nat) : Int) := by rw [wrap64_i64, w64 (by omega) (by omega)]; omega
          replace hE := Aside0.mk hE
          clear hbx l6 g6 l7 g7 hnx i6 i7 c6' c7'
          go_upto_region 8 with fail
          rw [← e1]
          clear e1
          go_region_held3 (fun w' => w'.cell? ⟨wr.heap.size, 6, none⟩ = some (.slice A6 x.f6.length c6) ∧ w'.cell? ⟨wr.heap.size, 7, none⟩ = some (.slice A7 x.f7.length c7)) (first | exact ⟨n6, n7⟩ | go_keep) (first | (go_at_call 21; refine (h6.out _ HBc.out).mono ?_; rintro e w2 ⟨rfl, q2⟩; replace n6 := pw_cell_below q2 n6; replace n7 := pw_cell_below q2 n7; replace HBc := Aside0.mk (below_step HBc.out q2); clear q2 h6) | (go_at_call 21; refine (h7.out _ HBc.out).mono ?_; rintro e w2 ⟨rfl, q2⟩; replace n6 := pw_cell_below q2 n6; replace n7 := pw_cell_below q2 n7; replace HBc := Aside0.mk (below_step HBc.out q2); clear q2 h7))
          all_goals
            go_wp2_with fail
            go_roundg (gk - 1)
            case measure => omega
            case rel => first | exact ⟨i + 1, n + 1 + (ciL x.f6 + ciL x.f7), by omega, by simp, congrArg (Value.int IntKind.i64) (by rw [wrap64_i64, w64 (by have := hE.out; omega) (by have := hE.out; omega)]; omega), ⟨by have := hE.out; omega⟩, HBc⟩ | exact ⟨i + 1, n + 2 + (ciL x.f6 + ciL x.f7), by omega, by simp, congrArg (Value.int IntKind.i64) (by rw [wrap64_i64, w64 (n := (n : Int) + 1 + 1) (by have := hE.out; omega) (by have := hE.out; omega), w64 (by have := hE.out; omega) (by have := hE.out; omega)]; omega), ⟨by have := hE.out; omega⟩, HBc⟩
    · have hl : decide ((i : Int) < (l.length : Int)) = false := decide_eq_false (by omega)
      have hE := HE.out
      rw [List.drop_eq_nil_of_le (by omega), ciL] at hE
      go_wp2
      go_ret
      exact ⟨by rw [← hE]; rfl, HB.out⟩
theorem count_all2 : ∀ (n : Nat) (l : List S78), SizeOf.sizeOf l < n → count.Con l
  | 0, l, h => absurd h (Nat.not_lt_zero _)
  | n + 1, l, h => count.step l fun x hx => by
      have h1 := List.sizeOf_lt_of_mem hx
      exact ⟨count_all2 n x.f6 (by have := S78.size6 x; omega), count_all2 n x.f7 (by have := S78.size7 x; omega)⟩
theorem count17_any (l : List S78) : count.Con l := count_all2 _ l (Nat.lt_succ_self _)
end Go.Proofs.YtkpnfejfbmandaaDoor.Px
