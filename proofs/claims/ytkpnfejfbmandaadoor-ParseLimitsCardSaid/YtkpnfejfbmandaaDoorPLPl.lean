import Derived.Test.YtkpnfejfbmandaaDoorPLPs
/- (*parse.parser).list. -/
namespace Go.Proofs.YtkpnfejfbmandaaDoor.Px
open Go.RowKit Go.Proofs.YtkpnfejfbmandaaDoorW.PrintWords Go.Proofs.YtkpnfejfbmandaaDoorW.PrintLast Go.Proofs.YtkpnfejfbmandaaDoorW.PrintMore
set_option linter.unusedVariables false
set_option linter.unusedSimpArgs false
def PlRel (g : Nat) (d : Int) (res : PA (List S78)) (w0 w : World) (kq : Nat) (v : Value) (wr : World) : Prop :=
  ∃ (out : List S78) (l : List S76) (n : Int), plist kq l n d out = some res ∧ Kd.R k78 78 wr w.heap.size (fun _ => True) v out ∧ PSt w0 w g l n d wr
set_option maxHeartbeats 1000000 in
set_option maxRecDepth 100000 in
theorem plist.step (k : Nat) (ihn : ∀ m, m < k → pnode.Con m) : plist.Con k := by
  intro g l n d res w0 w hS h
  have hgw : g < w.heap.size := by obtain ⟨A, c, hS, _⟩ := hS; exact hS.lt
  have HN := Aside0.mk ihn; clear ihn
  have H0 : PlRel g d res w0 w k (.slice none 0 0) w := ⟨[], l, n, h, Kd.R_nil _ _ _ _ _, hS⟩
  clear hS h
  go_enter Tryd.func32, Tryd.ntmps32
  go_wp2
  go_loopg [3] k (fun kq v wr => kq ≤ k ∧ PlRel g d res w0 w kq v wr)
  case atStart => exact ⟨Nat.le_refl _, H0⟩
  case round =>
    clear H0 l n
    obtain ⟨hk, out, l, n, H, HO, A, c, HS, HC, hc⟩ := hrel
    cases gk with
    | zero => exact absurd H (by simp [plist])
    | succ k1 =>
      have hb0 : wr.cell? ⟨g, 0, none⟩ = some (.slice A l.length c) := (HS.cell 0).trans rfl
      replace HS := Aside0.mk HS
      replace HO := Aside0.mk HO
      cases l with
      | nil =>
        simp only [plist, Option.some.injEq] at H
        obtain rfl := H
        have hl : (([] : List S76).length : Int) = 0 := rfl
        rw [show ([] : List S76).length = 0 from rfl] at hb0
        go_wp2
        go_ret
        exact ⟨⟨_, rfl, HO.out⟩, A, c, HS.out, HC, hc⟩
      | cons t r =>
        simp only [plist] at H
        by_cases hol : out.length < 100000
        case neg => rw [if_neg hol] at H; cases H
        rw [if_pos hol] at H
        obtain ⟨bb, oo, ss, rfl, x0, x1, x2, x3, x4⟩ := head_T28 HC
        replace x0 := HS.out.old x0
        have hlp : decide (0 < (((t :: r).length : Nat) : Int)) = true := decide_eq_true (by rw [List.length_cons]; omega)
        have hlp' : 0 < (t :: r).length := by rw [List.length_cons]; omega
        have hm := Kd.C_max HC
        replace HC := Aside0.mk HC
        replace H := Aside0.mk H
        generalize hnl : (t :: r).length = nl at *
        replace hnl := Aside0.mk hnl
        clear x1 x2 x3 x4
        by_cases h7 : t.f0 = 7
        · have H2 := H.out; clear H
          rw [if_pos (.inl h7)] at H2
          cases H2
          have h7' : (t.f0 != 7) = false := by simp [h7]
          clear h7
          go_wp2
          go_ret
          have HS2 := HS.out
          rw [← hnl.out] at hc
          exact ⟨⟨_, rfl, HO.out⟩, _, c, HS2, by rw [hnl.out]; exact HC.out, hc⟩
        by_cases h8 : t.f0 = 8
        · have H2 := H.out; clear H
          rw [if_pos (.inr h8)] at H2
          cases H2
          have h7' : (t.f0 != 7) = true := by simp [h7]
          have h8' : (t.f0 != 8) = false := by simp [h8]
          clear h7 h8
          go_wp2
          go_ret
          have HS2 := HS.out
          rw [← hnl.out] at hc
          exact ⟨⟨_, rfl, HO.out⟩, _, c, HS2, by rw [hnl.out]; exact HC.out, hc⟩
        have h7' : (t.f0 != 7) = true := by simp [h7]
        have h8' : (t.f0 != 8) = true := by simp [h8]
        replace H := H.out
        rw [if_neg (by rintro (h | h); exact h7 h; exact h8 h)] at H
        clear h7 h8
        cases hn : pnode k1 t r n d with
        | none => rw [hn] at H; cases H
        | some rn =>
        rw [hn] at H
        have hSt : PSt w0 wr g (t :: r) n d wr := ⟨_, c, HS.out.again, by rw [hnl.out]; exact HC.out, by rw [hnl.out]; exact hc⟩
        have HN1 := Aside0.mk (HN.out k1 (by omega) g t r n d rn w0 wr hSt hn)
        clear hn hSt
        cases rn with
        | error e =>
          obtain ⟨at_, er⟩ := e
          cases H
          go_wp2_with fail
          refine HN1.out.mono ?_
          rintro e w2 ⟨rfl, hb⟩
          go_wp2
          exact ⟨rfl, rfl, hb⟩
        | ok q =>
          obtain ⟨x, r', n'⟩ := q
          replace H := Aside0.mk H
          go_wp2_with fail
          refine HN1.out.mono ?_
          rintro e w2 ⟨⟨v6, v7, rfl, R6, R7⟩, A', c', S2, HC2, hc2⟩
          clear HN1
          obtain ⟨A6, c6, rfl⟩ := Kd.R_slice R6
          obtain ⟨A7, c7, rfl⟩ := Kd.R_slice R7
          have HO2 := Aside0.mk (R_keepBut HO.out S2.keep hgw)
          have HS2 := Aside0.mk (HS.out.call S2)
          have HM := Aside0.mk (And.intro (R_apart R6 HO.out HS.out.size) (R_apart R7 HO.out HS.out.size))
          replace HC2 := Aside0.mk HC2
          clear R6 R7 S2 HO HS
          go_wp2_with (at_builtin; go_loud (refine Kd.R_append k78 w.heap.size rfl _ _ 23 78 _ 104 rfl Tryd.underlying23 info78 rfl (by decide) (by decide) u3 out x [.int .i64 x.f0, .int .i64 x.f1, .string x.f2, .string x.f3, .bool x.f4, .bool x.f5, .slice A6 x.f6.length c6, .slice A7 x.f7.length c7] (fun _ => True) (fun k => some k ≠ u3.ownBlock) rfl rfl (k78_mkM _ _ _ x HM.out.1 HM.out.2) (fun k hk => ⟨trivial, hk⟩) (fun _ _ => trivial) HO2.out (Below.refl _ _) HS2.out.size (by omega) ?_; intro v1 w3 HO3 _ hg3 _; have HS3 := Aside0.mk (HS2.out.grown hg3 (Kd.R_base HO2.out) hgw); clear HS2 HM hg3; obtain ⟨A1, c1, rfl⟩ := Kd.R_slice HO3; replace HO3 := Aside0.mk HO3))
          go_roundg k1
          case measure => omega
          case rel => exact ⟨by omega, out ++ [x], r', n', H.out, (by have h5 := HO3.out; rwa [List.length_append, List.length_singleton] at h5), A', c', HS3.out, HC2.out, hc2⟩
end Go.Proofs.YtkpnfejfbmandaaDoor.Px
