import Derived.Test.YtkpnfejfbmandaaDoorCU24
/- The walk of tmplpipelaw17.CompileJumpsForward. -/
namespace Go.Proofs.YtkpnfejfbmandaaDoor.Px
open Go.RowKit Go.Proofs.YtkpnfejfbmandaaDoorW.PrintWords Go.Proofs.YtkpnfejfbmandaaDoorW.PrintLast Go.Proofs.YtkpnfejfbmandaaDoorW.PrintMore
set_option linter.unusedVariables false
set_option linter.unusedSimpArgs false
theorem rd40 {C : List S40} {i : Nat} {x : S40} (h : C[i]? = some x) : rd_T40 C (i : Int) = x := by unfold rd_T40; simp [List.getD, h]
set_option maxHeartbeats 1000000 in
set_option maxRecDepth 100000 in
theorem jumps_walk (s : ByteArray) (w : World) (hG : GS w) : Calls Tryd.prog 5 #[.string s] w fun e w' => e = .returned (.bool true) ∧ Below w.heap.size w w' := by
  have hal := Aside0.mk (fun W (hB : Below w.heap.size w W) => alive17_any W (hG.below hB))
  by_cases hs : s.size > 5000
  · have hs' : decide ((5000 : Int) < (s.size : Int)) = true := decide_eq_true (by omega)
    clear hG
    go_enter Tryd.func5, Tryd.ntmps5
    go_wp2_with (go_at_call 14; refine (hal.out _ (Below.refl _ _)).mono ?_; rintro ee w1 ⟨rfl, HB⟩; replace HB := Aside0.mk HB)
    go_ret
    exact ⟨rfl, HB.out⟩
  have hs' : decide ((5000 : Int) < (s.size : Int)) = false := decide_eq_false (by omega)
  obtain ⟨r, hr⟩ := parse_ev s
  have hco := Aside0.mk (compile_any hr w hG)
  have hok := Aside0.mk (fun he => (comp_ok hr he).2.2.2.2)
  generalize compF r = q at *
  obtain ⟨C, a, e⟩ := q
  dsimp only at hok
  clear hr hG
  by_cases he : e = 0
  case neg =>
    have he1 : (e != 0) = true := by simp [he]
    replace he := Aside0.mk he
    go_enter Tryd.func5, Tryd.ntmps5
    go_wp2_with (first | (go_at_call 15; refine hco.out.mono ?_; rintro ee w1 ⟨v, rfl, HR, HB⟩; obtain ⟨A, c, rfl⟩ := Kd.R_slice HR; replace HB := Aside0.mk HB; clear HR) | (go_at_call 14; refine (hal.out _ HB.out).mono ?_; rintro ee w3 ⟨rfl, HB3⟩; replace HB3 := Aside0.mk (below_step HB.out HB3)))
    go_ret
    exact ⟨rfl, HB3.out⟩
  have he1 : (e != 0) = false := by simp [he]
  have hall := Aside0.mk (hok.out he)
  subst he
  clear hok
  go_enter Tryd.func5, Tryd.ntmps5
  go_wp2_with (go_at_call 15; refine hco.out.mono ?_; rintro ee w1 ⟨v, rfl, HR, HB⟩; obtain ⟨A, c, rfl⟩ := Kd.R_slice HR; have hC := Aside0.mk (Kd.R_reads' HR).2.2; replace HB := Aside0.mk HB; clear HR)
  have hC63 : C.length ≤ 9223372036854775807 := hC.out.2.1
  go_loopg [23] C.length (fun kq v23 wr => ∃ i : Nat, kq + i = C.length ∧ v23 = .int .i64 i ∧ Aside0 (Below w1.heap.size w1 wr))
  case atStart => exact ⟨0, rfl, rfl, ⟨Below.refl _ _⟩⟩
  case round =>
    obtain ⟨i, hki, rfl, HL⟩ := hrel
    by_cases hlt2 : i < C.length
    · have hl : decide ((i : Int) < (C.length : Int)) = true := decide_eq_true (by omega)
      have hi1 : (i : Int) < (C.length : Int) := by omega
      obtain ⟨ad, hA, x0, x1, x2, x3, x4, x5⟩ := at_T40 hC.out (i : Int) (by omega) (by omega)
      have hx := List.getElem?_eq_getElem hlt2
      have hins := hall.out i _ hx
      rw [Nat.zero_add] at hins
      simp only [Int.toNat_natCast] at x0 x1 x2 x3 x4 x5
      rw [rd40 hx] at x0 x1 x2 x3 x4 x5
      have up : ∀ {a : Addr} {u : Value}, w1.cell? a = some u → wr.cell? a = some u := fun h => (HL.out.cell (World.block_lt_of_cell? _ _ h)).trans h
      have hat := Aside0.mk (fun (t : Nat) (y : S40) (hy : C[t]? = some y) => by
        have ht := (List.getElem?_eq_some_iff.1 hy).1
        obtain ⟨ad', hA', y0, y1, y2, y3, y4, y5⟩ := at_T40 hC.out (t : Int) (by omega) (by omega)
        simp only [Int.toNat_natCast] at y0 y1 y2 y3 y4 y5
        rw [rd40 hy] at y0 y5
        rw [hA] at hA'
        obtain rfl := Option.some.inj hA'
        exact (⟨up y0, up y5⟩ : wr.cell? (ad.add (t * 6)) = some (.int .i64 y.f0) ∧ wr.cell? ⟨(ad.add (t * 6)).block, (ad.add (t * 6)).off + 5, none⟩ = some (.int .i64 y.f5)))
      subst hA
      have hab := World.block_lt_of_cell? _ _ (up x0)
      replace x0 := up x0
      replace x1 := up x1
      replace x2 := up x2
      replace x3 := up x3
      replace x4 := up x4
      replace x5 := up x5
      clear up hx
      generalize C[i] = x at *
      have hi0 : (0 : Int) ≤ (i : Int) := Int.natCast_nonneg i
      cases hins
      case text S h =>
        go_wp2
        go_roundg (gk - 1)
        case measure => omega
        case rel => exact ⟨i + 1, by omega, by simp, ⟨below_alloc HL.out _⟩⟩
      case print p k hp h0 h1 =>
        go_wp2
        go_roundg (gk - 1)
        case measure => omega
        case rel => exact ⟨i + 1, by omega, by simp, ⟨below_alloc HL.out _⟩⟩
      case jif p t hp h0 h1 =>
        have j1 : decide ((t : Int) ≤ (i : Int)) = false := decide_eq_false (by omega)
        have j2 : decide ((C.length : Int) ≤ (t : Int)) = false := decide_eq_false (by omega)
        go_wp2
        go_roundg (gk - 1)
        case measure => omega
        case rel => exact ⟨i + 1, by omega, by simp, ⟨below_alloc HL.out _⟩⟩
      case jump t h0 h1 =>
        have j1 : decide ((t : Int) ≤ (i : Int)) = false := decide_eq_false (by omega)
        have j2 : decide ((C.length : Int) ≤ (t : Int)) = false := decide_eq_false (by omega)
        go_wp2
        go_roundg (gk - 1)
        case measure => omega
        case rel => exact ⟨i + 1, by omega, by simp, ⟨below_alloc HL.out _⟩⟩
      case range p t hp h0 h1 =>
        go_wp2
        go_roundg (gk - 1)
        case measure => omega
        case rel => exact ⟨i + 1, by omega, by simp, ⟨below_alloc HL.out _⟩⟩
      case next t y h0 hy h4 h5 =>
        obtain ⟨y0, y5⟩ := hat.out t y hy
        have hab2 := World.block_lt_of_cell? _ _ y0
        rw [h4] at y0
        rw [h5] at y5
        obtain ⟨q, hq⟩ : ∃ q : Int, q = ((t + 1 : Nat) : Int) := ⟨_, rfl⟩
        rw [← hq] at x5
        have j1 : decide (q < 1) = false := decide_eq_false (by omega)
        have j2 : decide ((i : Int) < q) = false := decide_eq_false (by omega)
        have j3 : IntKind.i64.wrap (q - 1) = (t : Int) := by rw [IntKind.wrap_i64]; omega
        have j4 : (0 : Int) ≤ (t : Int) := Int.natCast_nonneg t
        have j5 : (t : Int) < (C.length : Int) := by omega
        have j6 : ((((i + 1 : Nat) : Int)) != (i : Int) + 1) = false := by simp
        replace hq := Aside0.mk hq
        go_wp2
        go_roundg (gk - 1)
        case measure => omega
        case rel => exact ⟨i + 1, by omega, by simp, ⟨below_alloc HL.out _⟩⟩
      case call p h t y hp hh h1 hy h7 =>
        obtain ⟨y0, y5⟩ := hat.out t y hy
        have hab2 := World.block_lt_of_cell? _ _ y0
        obtain ⟨q, hq⟩ : ∃ q : Int, q = ((t + 1 : Nat) : Int) := ⟨_, rfl⟩
        rw [← hq] at x5
        have j1 : decide (q < 1) = false := decide_eq_false (by omega)
        have j2 : decide ((C.length : Int) ≤ q) = false := decide_eq_false (by omega)
        have j3 : IntKind.i64.wrap (q - 1) = (t : Int) := by rw [IntKind.wrap_i64]; omega
        have j4 : (0 : Int) ≤ (t : Int) := Int.natCast_nonneg t
        have j5 : (t : Int) < (C.length : Int) := by omega
        replace hq := Aside0.mk hq
        rcases h7 with h7 | h7
        all_goals
          rw [h7] at y0
          go_wp2
          go_roundg (gk - 1)
          case measure => omega
          case rel => exact ⟨i + 1, by omega, by simp, ⟨below_alloc HL.out _⟩⟩
      case plain k hk =>
        rcases hk with rfl | rfl | rfl
        all_goals
          go_wp2
          go_roundg (gk - 1)
          case measure => omega
          case rel => exact ⟨i + 1, by omega, by simp, ⟨below_alloc HL.out _⟩⟩
    · have hl : decide ((i : Int) < (C.length : Int)) = false := decide_eq_false (by omega)
      have HB2 := Aside0.mk (below_step HB.out HL.out)
      go_wp2_with (go_at_call 14; refine (hal.out _ HB2.out).mono ?_; rintro ee w3 ⟨rfl, HB3⟩; replace HB3 := Aside0.mk (below_step HB2.out HB3))
      go_ret
      exact ⟨rfl, HB3.out⟩
end Go.Proofs.YtkpnfejfbmandaaDoor.Px
