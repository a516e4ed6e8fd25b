import Derived.Test.YtkpnfejfbmandaaDoorCU25
import Derived.Test.YtkpnfejfbmandaaDoorCU26
import Derived.Test.YtkpnfejfbmandaaDoorCU24
/- The walk of tmplpipelaw17.CompileFormatIndependent. -/
namespace Go.Proofs.YtkpnfejfbmandaaDoor.Px
open Go.RowKit Go.Proofs.YtkpnfejfbmandaaDoorW.PrintWords Go.Proofs.YtkpnfejfbmandaaDoorW.PrintLast Go.Proofs.YtkpnfejfbmandaaDoorW.PrintMore
set_option linter.unusedVariables false
set_option linter.unusedSimpArgs false
theorem fmt_trip {s : ByteArray} (hs : s.size ≤ 5000) {r : List S78 × Int × Int} (h : Ev (fun k => parse_Parse.f k s) r) (he : r.2.2 = 0) :
    ∃ (F : ByteArray) (l2 : List S78), printer_Format.f r.1 = some F ∧ Ev (fun k => parse_Parse.f k F) (l2, (F.size : Int), 0) ∧ eqRL false r.1 l2 = true := by
  obtain ⟨K, hK⟩ := h
  have hone := hK K (Nat.le_refl _)
  obtain ⟨L, n', hsz, hL, hp, _⟩ := parse_good hone he
  have hcan := lexS_canT _ 0 _ L (Nat.le_refl _) hL
  have hlen := lexS_len _ 0 _ L (Nat.le_refl _) hL
  rw [data_length] at hcan hlen
  obtain ⟨F, l2, f1, f2, f3, -, -⟩ := trip L r.1 K n' hcan.1 (by omega) (by have := hcan.2; omega) (fun x hx => lexS_small 5000 _ 0 _ L (Nat.le_refl _) (by rw [data_length]; omega) hL x hx) hp
  exact ⟨F, l2, f1, f2, f3⟩
set_option maxHeartbeats 1000000 in
set_option maxRecDepth 100000 in
theorem indep_walk (s : ByteArray) (w : World) (hG : GS w) : Calls Tryd.prog 8 #[.string s] w fun e w' => e = .returned (.bool true) ∧ Below w.heap.size w w' := by
  have hal := Aside0.mk (fun W (hB : Below w.heap.size w W) => alive17_any W (hG.below hB))
  by_cases hs : s.size > 5000
  · have hs' : decide ((5000 : Int) < (s.size : Int)) = true := decide_eq_true (by omega)
    clear hG
    go_enter Tryd.func8, Tryd.ntmps8
    go_wp2_with (go_at_call 14; refine (hal.out _ (Below.refl _ _)).mono ?_; rintro ee w1 ⟨rfl, HB⟩; replace HB := Aside0.mk HB)
    go_ret
    exact ⟨rfl, HB.out⟩
  have hs' : decide ((5000 : Int) < (s.size : Int)) = false := decide_eq_false (by omega)
  obtain ⟨r, hr⟩ := parse_ev s
  have hco := Aside0.mk (compile_any hr w hG)
  have hpa := Aside0.mk (fun W (hB : Below w.heap.size w W) => parse_any hr W (hG.below hB))
  have hok := Aside0.mk (fun he => (comp_ok hr he).1)
  have htr := Aside0.mk (fun he => fmt_trip (by omega) hr he)
  obtain ⟨l, pa, pe⟩ := r
  dsimp only at hpa hok htr
  obtain ⟨q, hq⟩ : ∃ q, q = compF (l, pa, pe) := ⟨_, rfl⟩
  rw [← hq] at hco hok
  obtain ⟨C, a, e⟩ := q
  dsimp only at hok
  clear hr
  replace hG := Aside0.mk hG
  by_cases he : e = 0
  case neg =>
    have he1 : (e != 0) = true := by simp [he]
    replace he := Aside0.mk he
    replace hq := Aside0.mk hq
    go_enter Tryd.func8, Tryd.ntmps8
    go_wp2_with (first | (go_at_call 15; refine hco.out.mono ?_; rintro ee w1 ⟨v, rfl, HR, HB⟩; obtain ⟨A, c, rfl⟩ := Kd.R_slice HR; replace HB := Aside0.mk HB; clear HR) | (go_at_call 14; refine (hal.out _ HB.out).mono ?_; rintro ee w3 ⟨rfl, HB3⟩; replace HB3 := Aside0.mk (below_step HB.out HB3)))
    go_ret
    exact ⟨rfl, HB3.out⟩
  have he1 : (e != 0) = false := by simp [he]
  obtain rfl := hok.out he
  obtain ⟨F, l2, hf, hr2, heq⟩ := htr.out rfl
  have hsame := compF_same pa (F.size : Int) heq (by rw [← hq]; exact he)
  rw [← hq] at hsame
  subst he
  have hfm := Aside0.mk (fun A c W hC hc => printer_Format.calls A c l F W hC hc hf)
  have hc2 := Aside0.mk (fun W (hB : Below w.heap.size w W) => compile_any hr2 W (hG.out.below hB))
  rw [hsame] at hc2
  replace hq := Aside0.mk hq
  replace hsame := Aside0.mk hsame
  clear hok htr hf heq hr2
  go_enter Tryd.func8, Tryd.ntmps8
  go_wp2_with (first | (go_at_call 15; refine hco.out.mono ?_; rintro ee w1 ⟨v, rfl, HR, HB⟩; obtain ⟨A, c, rfl⟩ := Kd.R_slice HR; have hC := Aside0.mk (Kd.R_reads' HR).2.2; replace HB := Aside0.mk HB; clear HR hco) | (go_at_call 10; refine (hpa.out _ HB.out).mono ?_; rintro ee w2 ⟨A2, c2, rfl, hL, hlc, HB2⟩; replace hC := Aside0.mk (Kd.C_below hC.out HB2); replace HB2 := Aside0.mk (below_step HB.out HB2); replace hL := Aside0.mk hL) | (go_at_call 22; refine (hfm.out _ _ _ hL.out hlc).mono ?_; rintro ee w3 ⟨rfl, HB3⟩; replace hC := Aside0.mk (Kd.C_below hC.out HB3); replace HB3 := Aside0.mk (below_step HB2.out HB3)) | (go_at_call 15; refine (hc2.out _ HB3.out).mono ?_; rintro ee w4 ⟨v4, rfl, HR4, HB4⟩; obtain ⟨A4, c4, rfl⟩ := Kd.R_slice HR4; have hD := Aside0.mk (Kd.R_reads' HR4).2.2; replace hC := Aside0.mk (Kd.C_below hC.out HB4); replace HB4 := Aside0.mk (below_step HB3.out HB4); clear HR4) | (go_at_call 14; refine (hal.out _ HB4.out).mono ?_; rintro ee w5 ⟨rfl, HB5⟩; replace hC := Aside0.mk (Kd.C_below hC.out HB5); replace hD := Aside0.mk (Kd.C_below hD.out HB5); replace HB5 := Aside0.mk (below_step HB4.out HB5)) | (go_at_call 23; refine (equal_ins C C A A4 c c4 _ hC.out hD.out).mono ?_; rintro ee w6 ⟨⟨b, rfl, hb⟩, HB6⟩; obtain rfl : b = true := hb.2 rfl; replace HB6 := Aside0.mk (below_step HB5.out HB6)))
  go_ret
  exact ⟨rfl, HB6.out⟩
end Go.Proofs.YtkpnfejfbmandaaDoor.Px
