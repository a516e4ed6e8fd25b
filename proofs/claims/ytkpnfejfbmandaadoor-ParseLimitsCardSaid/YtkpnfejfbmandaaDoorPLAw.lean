import Derived.Test.YtkpnfejfbmandaaDoorPLNb
import Derived.Outline
/- parse.Parse where the answer is known; tmplpipelaw12.alive. -/
namespace Go.Proofs.YtkpnfejfbmandaaDoor.Px
open Go.RowKit Go.Proofs.YtkpnfejfbmandaaDoorW.PrintWords Go.Proofs.YtkpnfejfbmandaaDoorW.PrintLast Go.Proofs.YtkpnfejfbmandaaDoorW.PrintMore
set_option linter.unusedVariables false
set_option linter.unusedSimpArgs false
theorem parse_any {s : ByteArray} {r : List S78 × Int × Int} (h : Ev (fun k => parse_Parse.f k s) r) (w : World) (hG : GS w) :
    Calls Tryd.prog 10 #[.string s] w fun e w' => ∃ (A : Option Addr) (c : Nat), e = .returned (.tuple #[.slice A r.1.length c, .int .i64 r.2.1, .int .i64 r.2.2]) ∧ Kd.C k78 w' A r.1.length r.1 ∧ r.1.length ≤ c ∧ Below w.heap.size w w' := by
  obtain ⟨K, hK⟩ := h
  refine (parse_Parse.calls K s r.1 r.2.1 r.2.2 w hG (hK K (Nat.le_refl _))).mono ?_
  rintro e w' ⟨v, rfl, HR, HB⟩
  obtain ⟨A, c, rfl⟩ := Kd.R_slice HR
  have q := Kd.R_reads' HR
  exact ⟨A, c, rfl, q.2.2, q.2.1, HB⟩
theorem parse_12 {s : ByteArray} {r : List S78 × Int × Int} (h : parse_Parse.f 12 s = some r) : Ev (fun k => parse_Parse.f k s) r := Ev.up (parse_Parse.mono s) h
def al12n : S78 := ⟨2, 0, ⟨#[]⟩, ⟨#[97]⟩, true, true, [⟨0, 9, ⟨#[120]⟩, ⟨#[]⟩, false, false, [], []⟩], [⟨0, 18, ⟨#[121]⟩, ⟨#[]⟩, false, false, [], []⟩]⟩
theorem al12a : parse_Parse.f 12 ⟨#[123, 123, 105, 102, 32, 46, 97, 125, 125, 120, 123, 123, 101, 108, 115, 101, 125, 125, 121, 123, 123, 101, 110, 100, 125, 125]⟩ = some ([al12n], 26, 0) := by
  rw [parseK_is]; kernel_rfl
theorem al12b : parse_Parse.f 12 ⟨#[120, 123, 123, 101, 110, 100, 125, 125]⟩ = some ([], 1, 13) := by
  rw [parseK_is]; kernel_rfl
set_option maxHeartbeats 1000000 in
set_option maxRecDepth 100000 in
theorem alive12_any (w : World) (hG : GS w) : Calls Tryd.prog 11 #[] w fun e w' => e = .returned (.bool true) ∧ Below w.heap.size w w' := by
  have hG0 := Aside0.mk hG
  clear hG
  go_enter Tryd.func11, Tryd.ntmps11
  go_wp2_with fail
  refine (parse_any (parse_12 al12a) _ hG0.out).mono ?_
  rintro e w1 ⟨A, c, rfl, hC, hc, HB⟩
  obtain ⟨ad, A6, c6, A7, c7, rfl, x0, x1, x2, x3, x4, x5, x6, x7, -⟩ := at_T78 hC 0 (Int.le_refl _) (by decide)
  simp only [show rd_T78 [al12n] 0 = al12n from rfl] at x0 x1 x2 x3 x4 x5 x6 x7
  clear x1 x2 x3 x4 x5 hC
  obtain ⟨b, o, s⟩ := ad
  simp only [Addr.add, Int.toNat_zero, Nat.zero_mul, if_true, Nat.add_zero] at x0 x6 x7
  dsimp only [al12n, List.length_cons, List.length_nil] at x0 x6 x7
  replace HB := Aside0.mk HB
  go_wp2_with fail
  refine (parse_any (parse_12 al12b) _ (hG0.out.below HB.out)).mono ?_
  rintro e w2 ⟨A', c', rfl, -, -, HB2⟩
  replace x0 := pw_cell_below HB2 x0
  replace x6 := pw_cell_below HB2 x6
  replace x7 := pw_cell_below HB2 x7
  replace HB := Aside0.mk (below_step HB.out HB2)
  clear HB2
  dsimp only
  go_wp2
  go_outline
  go_ret
  exact ⟨rfl, HB.out⟩
end Go.Proofs.YtkpnfejfbmandaaDoor.Px
