/- The walk of tmplpipelaw12.ParseManyNodes. -/
import Derived.Test.YtgdpojleejdfaaaDoorPCPureParseManyNodes
import Derived.Test.YtgdpojleejdfaaaDoorPCCc
import Derived.Test.YtgdpojleejdfaaaDoorPCRep
namespace Go.Proofs.YtgdpojleejdfaaaDoor.Px
open Go.RowKit Go.Proofs.YtgdpojleejdfaaaDoorW.PrintWords Go.Proofs.YtgdpojleejdfaaaDoorW.PrintLast Go.Proofs.YtgdpojleejdfaaaDoorW.PrintMore
set_option linter.unusedVariables false
set_option linter.unusedSimpArgs false

theorem repeat_flush : ∀ k, Lib.repeatL flushB k = flAll k
  | 0 => rfl
  | k + 1 => by
    have := repeat_flush k
    simp only [Lib.repeatL, flAll] at this ⊢
    simpa using this
set_option maxHeartbeats 1000000 in
set_option maxRecDepth 100000 in
theorem manyNodes_walk (n : Int) (w : World) (hG : GS w) (h0 : 0 ≤ n) (h1 : n ≤ 255) : Calls Tryd.prog 13 #[.int .u8 n] w fun e w' => e = .returned (.bool true) ∧ Below w.heap.size w w' := by
  have hG0 := Aside0.mk hG
  clear hG
  go_enter Tryd.func13, Tryd.ntmps13
  go_wp2_with fail
  obtain ⟨k, hk⟩ : ∃ k : Nat, (4094 + n % 5 : Int) = (k : Int) := ⟨(4094 + n % 5).toNat, by omega⟩
  have hk1 : 4094 ≤ k ∧ k ≤ 4098 := by omega
  rw [hk]
  clear hk h0 h1
  obtain ⟨hka, hkb⟩ := hk1
  refine (Tryd.strings_Repeat_main ⟨#[123, 123, 102, 108, 117, 115, 104, 125, 125]⟩ k _ (by omega) (by omega) (show 9 * k ≤ _ by omega) (by decide)).mono ?_
  rintro e w1 ⟨rfl, HB⟩
  replace HB := Aside0.mk HB
  rw [show Lib.repeatL (⟨#[123, 123, 102, 108, 117, 115, 104, 125, 125]⟩ : ByteArray).data.toList k = flAll k from repeat_flush k]
  obtain ⟨l, hl, hlen⟩ := many_ev k (by omega)
  have hFs : (⟨(flAll k).toArray⟩ : ByteArray).size = 9 * k := by rw [← data_length]; simp [flAll_len]
  replace hl := Aside0.mk hl
  by_cases hle : k ≤ 4096
  · rw [if_pos hle] at hl hlen
    go_wp2_with fail
    refine (parse_any hl.out _ (hG0.out.below HB.out)).mono ?_
    rintro e w2 ⟨A, c, rfl, _, _, HB2⟩
    dsimp only
    replace HB := Aside0.mk (below_step HB.out HB2)
    clear HB2 hl
    have hle' : decide ((k : Int) ≤ 4096) = true := decide_eq_true (by omega)
    rw [hlen]
    have hq : (9 * (k : Int) == ((flAll k).length : Int)) = true := by rw [flAll_len]; simp
    replace hFs := Aside0.mk hFs
    clear hlen
    go_wp2_with fail
    refine (alive12_any _ (hG0.out.below HB.out)).mono ?_
    rintro e w3 ⟨rfl, HB2⟩
    go_wp2
    go_ret
    exact ⟨rfl, below_step HB.out HB2⟩
  · rw [if_neg hle] at hl hlen
    go_wp2_with fail
    refine (parse_any hl.out _ (hG0.out.below HB.out)).mono ?_
    rintro e w2 ⟨A, c, rfl, _, _, HB2⟩
    dsimp only
    replace HB := Aside0.mk (below_step HB.out HB2)
    clear HB2 hl
    have hle' : decide ((k : Int) ≤ 4096) = false := decide_eq_false (by omega)
    rw [hlen]
    clear hlen hFs
    go_wp2_with fail
    refine (alive12_any _ (hG0.out.below HB.out)).mono ?_
    rintro e w3 ⟨rfl, HB2⟩
    go_wp2
    go_ret
    exact ⟨rfl, below_step HB.out HB2⟩
theorem u8_wf {a : Int} (h : (Lit.int .u8 a).wf = true) : 0 ≤ a ∧ a ≤ 255 := by
  unfold Lit.wf at h
  rw [Bool.and_eq_true] at h
  exact ⟨of_decide_eq_true h.1, of_decide_eq_true h.2⟩
end Go.Proofs.YtgdpojleejdfaaaDoor.Px
