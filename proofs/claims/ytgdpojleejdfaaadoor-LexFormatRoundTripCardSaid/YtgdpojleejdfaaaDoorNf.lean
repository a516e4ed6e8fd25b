/- Contracts of slices.ContainsFunc and IndexFunc at value.Split's closure. -/
import Derived.Test.YtgdpojleejdfaaaDoorNm
namespace Go.Proofs.YtgdpojleejdfaaaDoor.Px
open Go.RowKit Go.Proofs.YtgdpojleejdfaaaDoorW.PrintWords Go.Proofs.YtgdpojleejdfaaaDoorW.PrintLast Go.Proofs.YtgdpojleejdfaaaDoorW.PrintMore
set_option linter.unusedVariables false
set_option linter.unusedSimpArgs false

set_option maxRecDepth 100000 in
theorem notName_any (s : ByteArray) (w : World) : Calls Tryd.prog 83 #[.string s] w fun e w' => e = .returned (.bool (!nameL s.data.toList)) ∧ Below w.heap.size w w' := by
  go_enter Tryd.func83, Tryd.ntmps83
  go_wp2_with fail
  refine (isName_any s _).mono ?_
  rintro e w1 ⟨rfl, HB⟩
  cases hb : nameL s.data.toList
  · go_wp2
    go_ret
    exact ⟨by rw [hb]; rfl, HB⟩
  · go_wp2
    go_ret
    exact ⟨by rw [hb]; rfl, HB⟩
def IxRel (xs : List ByteArray) (w : World) (v : Value) (wr : World) : Prop := ∃ i : Nat, i ≤ xs.length ∧ v = .int .i64 i ∧ (lsX xs).all nameL = ((lsX xs).drop i).all nameL ∧ Below w.heap.size w wr
where lsX (xs : List ByteArray) : List (List UInt8) := xs.map (·.data.toList)
theorem lsX_drop (xs : List ByteArray) (i : Nat) (h : i < xs.length) : ((IxRel.lsX xs).drop i).all nameL = (nameL xs[i].data.toList && ((IxRel.lsX xs).drop (i + 1)).all nameL) := by
  have hl : i < (IxRel.lsX xs).length := by unfold IxRel.lsX; rw [List.length_map]; exact h
  rw [List.drop_eq_getElem_cons hl, List.all_cons]
  simp [IxRel.lsX]
theorem rd_at (a : List ByteArray) (i : Nat) (h : i < a.length) : rdOf ByteArray.empty a (i : Int) = a[i] := by simp [rdOf, List.getD_eq_getElem?_getD, h]

set_option maxHeartbeats 1000000 in
set_option maxRecDepth 100000 in
theorem indexFunc_any (xs : List ByteArray) (A : Option Addr) (c : Nat) (w : World) (hC : Kd.C Kd.string w A xs.length xs) (hc : xs.length ≤ c) :
    Calls Tryd.prog 95 #[.slice A xs.length c, .func (.func 83) #[] #[]] w fun e w' => ∃ n : Int, e = .returned (.int .i64 n) ∧ decide (0 ≤ n) = !(xs.map (·.data.toList)).all nameL ∧ Below w.heap.size w w' := by
  have hm := Kd.C_max hC
  replace hC := Aside0.mk hC
  go_enter Tryd.func95, Tryd.ntmps95
  go_wp2
  go_loopw [8] (fun v wr => IxRel xs w v wr) (fun v _ => xs.length - (intOf v).toNat)
  case atStart => exact ⟨0, Nat.zero_le _, rfl, rfl, Below.refl _ _⟩
  case round =>
    obtain ⟨i, hi, rfl, hE, HB⟩ := hrel
    replace hE := Aside0.mk hE
    replace HB := Aside0.mk HB
    by_cases hlt : i < xs.length
    case neg =>
      obtain rfl : i = xs.length := by omega
      have hE2 := Aside0.mk (show (xs.map (·.data.toList)).all nameL = true by
        have := hE.out
        rw [List.drop_eq_nil_of_le (by simp [IxRel.lsX])] at this
        exact this)
      clear hE
      go_wp2
      go_ret
      exact ⟨_, rfl, by rw [hE2.out]; rfl, HB.out⟩
    obtain ⟨ad, rfl, hcell⟩ := Kd.at_string (Kd.C_below hC.out HB.out) (i : Int) (by omega) (by omega)
    rw [rd_at xs i hlt, Int.toNat_natCast] at hcell
    have hEx := Aside0.mk (hE.out.trans (lsX_drop xs i hlt))
    clear hE
    generalize xs[i] = x at *
    go_wp2_with fail
    refine (notName_any x _).mono ?_
    rintro e w2 ⟨rfl, HB2⟩
    replace HB := Aside0.mk (below_step HB.out HB2)
    clear HB2 hcell
    cases hb0 : nameL x.data.toList with
    | false =>
      have hE2 := Aside0.mk (show (xs.map (·.data.toList)).all nameL = false by
        have := hEx.out
        rw [hb0, Bool.false_and] at this
        exact this)
      clear hEx hb0
      go_wp2
      go_ret
      exact ⟨_, rfl, by rw [hE2.out]; exact decide_eq_true (by omega), HB.out⟩
    | true =>
      have hE2 := Aside0.mk (show (IxRel.lsX xs).all nameL = ((IxRel.lsX xs).drop (i + 1)).all nameL by rw [hEx.out, hb0, Bool.true_and])
      clear hEx hb0
      go_wp2
      go_roundw
      case rel => exact ⟨i + 1, by omega, by simp [intOf], hE2.out, HB.out⟩
      case measure => simp [intOf]; omega
set_option maxRecDepth 100000 in
theorem containsFunc_any (xs : List ByteArray) (A : Option Addr) (c : Nat) (w : World) (hC : Kd.C Kd.string w A xs.length xs) (hc : xs.length ≤ c) :
    Calls Tryd.prog 82 #[.slice A xs.length c, .func (.func 83) #[] #[]] w fun e w' => e = .returned (.bool (!(xs.map (·.data.toList)).all nameL)) ∧ Below w.heap.size w w' := by
  go_enter Tryd.func82, Tryd.ntmps82
  go_wp2_with fail
  refine (indexFunc_any xs A c _ hC hc).mono ?_
  rintro e w1 ⟨n, rfl, hn, HB⟩
  generalize hR : (!(xs.map (·.data.toList)).all nameL) = R at *
  go_wp2
  go_ret
  exact ⟨by rw [hR]; rfl, HB⟩
end Go.Proofs.YtgdpojleejdfaaaDoor.Px
