import Derived.Test.YtkpnfejfbmandaaDoorCIM2
import Derived.Test.YtkpnfejfbmandaaDoorCIM12
namespace Go.Proofs.YtkpnfejfbmandaaDoor.Px
open Go.RowKit Go.Proofs.YtkpnfejfbmandaaDoorW.PrintWords Go.Proofs.YtkpnfejfbmandaaDoorW.PrintLast Go.Proofs.YtkpnfejfbmandaaDoorW.PrintMore
attribute [local go_sem] max2_int min2_int max_two min_two max_three min_three max_four min_four   -- for this text's walks alone
set_option linter.unusedVariables false
set_option linter.unusedSimpArgs false
mutual
def tmplpiperef11_form.j0 : Nat → List ByteArray → Int → Int → ByteArray → ByteArray → Bool → Option (Int × Int × ByteArray × ByteArray × Bool × Bool × Bool)
 | 0, _, _, _, _, _, _ => none
 | k + 1, x6, x249000, x249001, x249002, x249003, x249004 => if x249000 = 4 then (tmplpiperef11_form.j1 k x6 true true x249000 x249001 x249002 x249003 x249004) else (tmplpiperef11_form.j1 k x6 true (x249000 == 6) x249000 x249001 x249002 x249003 x249004)
def tmplpiperef11_form.j1 : Nat → List ByteArray → Bool → Bool → Int → Int → ByteArray → ByteArray → Bool → Option (Int × Int × ByteArray × ByteArray × Bool × Bool × Bool)
 | 0, _, _, _, _, _, _, _, _ => none
 | k + 1, x6, x7, x54, x249000, x249001, x249002, x249003, x249004 => if x54 = true then (if (x6.length : Int) = 0 then (some (x249000, x249001, x249002, x249003, x249004, false, false)) else (if 0 < (x6.length : Int) then ((tmplpiperef11_path.f (rdOf ByteArray.empty x6 0)).bind fun t258 => (if t258 = true then (some (x249000, x249001, x249002, x249003, x249004, false, false)) else ((tmplpiperef09_IsName.f k (rdOf ByteArray.empty x6 0)).bind fun t260 => (if 1 ≤ (x6.length : Int) then (tmplpiperef11_form.j2 k (x6.drop 1) t260 x249000 x249001 (rdOf ByteArray.empty x6 0) x249003 x249004) else (none))))) else (none))) else (tmplpiperef11_form.j2 k x6 x7 x249000 x249001 x249002 x249003 x249004)
def tmplpiperef11_form.j2 : Nat → List ByteArray → Bool → Int → Int → ByteArray → ByteArray → Bool → Option (Int × Int × ByteArray × ByteArray × Bool × Bool × Bool)
 | 0, _, _, _, _, _, _, _ => none
 | k + 1, x6, x7, x249000, x249001, x249002, x249003, x249004 => if x249000 ≥ 1 then (if x249000 ≤ 3 then (tmplpiperef11_form.j3 k x6 x7 true x249000 x249001 x249002 x249003 x249004) else (if x249000 = 4 then (tmplpiperef11_form.j3 k x6 x7 (decide ((x6.length : Int) > 0)) x249000 x249001 x249002 x249003 x249004) else (tmplpiperef11_form.j3 k x6 x7 false x249000 x249001 x249002 x249003 x249004))) else (if x249000 = 4 then (tmplpiperef11_form.j3 k x6 x7 (decide ((x6.length : Int) > 0)) x249000 x249001 x249002 x249003 x249004) else (tmplpiperef11_form.j3 k x6 x7 false x249000 x249001 x249002 x249003 x249004))
def tmplpiperef11_form.j3 : Nat → List ByteArray → Bool → Bool → Int → Int → ByteArray → ByteArray → Bool → Option (Int × Int × ByteArray × ByteArray × Bool × Bool × Bool)
 | 0, _, _, _, _, _, _, _, _ => none
 | k + 1, x6, x7, x91, x249000, x249001, x249002, x249003, x249004 => if x91 = true then (if (x6.length : Int) = 0 then (some (x249000, x249001, x249002, x249003, x249004, false, false)) else (if 0 < (x6.length : Int) then ((tmplpiperef11_path.f (rdOf ByteArray.empty x6 0)).bind fun t267 => (if t267 = true then (if 1 ≤ ((rdOf ByteArray.empty x6 0).size : Int) then ((tmplpiperef09_Split.f k ((rdOf ByteArray.empty x6 0).extract 1 (rdOf ByteArray.empty x6 0).size)).bind fun bt269 => (if x7 = true then (if 1 ≤ (x6.length : Int) then (if x249000 ≥ 0 then (some (x249000, x249001, x249002, (rdOf ByteArray.empty x6 0).extract 1 (rdOf ByteArray.empty x6 0).size, true, (((x6.drop 1).length : Int) == 0), (bt269.2 == 0))) else (some (x249000, x249001, x249002, (rdOf ByteArray.empty x6 0).extract 1 (rdOf ByteArray.empty x6 0).size, true, false, (bt269.2 == 0)))) else (none)) else (if 1 ≤ (x6.length : Int) then (if x249000 ≥ 0 then (some (x249000, x249001, x249002, (rdOf ByteArray.empty x6 0).extract 1 (rdOf ByteArray.empty x6 0).size, true, (((x6.drop 1).length : Int) == 0), false)) else (some (x249000, x249001, x249002, (rdOf ByteArray.empty x6 0).extract 1 (rdOf ByteArray.empty x6 0).size, true, false, false))) else (none)))) else (none)) else (some (x249000, x249001, x249002, x249003, x249004, false, false)))) else (none))) else (if x249000 ≥ 0 then (some (x249000, x249001, x249002, x249003, x249004, ((x6.length : Int) == 0), x7)) else (some (x249000, x249001, x249002, x249003, x249004, false, x7)))
end
def tmplpiperef11_form.f (k : Nat) (l0 : List ByteArray) : Option (Int × Int × ByteArray × ByteArray × Bool × Bool × Bool) := if (l0.length : Int) = 0 then (some ((-1), 0, (⟨#[]⟩ : ByteArray), (⟨#[]⟩ : ByteArray), false, false, false)) else (if 1 ≤ (l0.length : Int) then ((some (l0.drop 1 : List ByteArray)).bind fun y249 => (if 0 < (l0.length : Int) then (if (rdOf ByteArray.empty l0 0).toList = ([105, 102] : List UInt8) then (tmplpiperef11_form.j0 k y249 2 0 (⟨#[]⟩ : ByteArray) (⟨#[]⟩ : ByteArray) false) else (if (rdOf ByteArray.empty l0 0).toList = ([114, 97, 110, 103, 101] : List UInt8) then (tmplpiperef11_form.j0 k y249 3 0 (⟨#[]⟩ : ByteArray) (⟨#[]⟩ : ByteArray) false) else (if (rdOf ByteArray.empty l0 0).toList = ([99, 97, 108, 108] : List UInt8) then (tmplpiperef11_form.j0 k y249 4 0 (⟨#[]⟩ : ByteArray) (⟨#[]⟩ : ByteArray) false) else (if (rdOf ByteArray.empty l0 0).toList = ([102, 108, 117, 115, 104] : List UInt8) then (tmplpiperef11_form.j0 k y249 5 0 (⟨#[]⟩ : ByteArray) (⟨#[]⟩ : ByteArray) false) else (if (rdOf ByteArray.empty l0 0).toList = ([100, 101, 102, 105, 110, 101] : List UInt8) then (tmplpiperef11_form.j0 k y249 6 0 (⟨#[]⟩ : ByteArray) (⟨#[]⟩ : ByteArray) false) else (if (rdOf ByteArray.empty l0 0).toList = ([101, 108, 115, 101] : List UInt8) then (tmplpiperef11_form.j0 k y249 7 0 (⟨#[]⟩ : ByteArray) (⟨#[]⟩ : ByteArray) false) else (if (rdOf ByteArray.empty l0 0).toList = ([101, 110, 100] : List UInt8) then (tmplpiperef11_form.j0 k y249 8 0 (⟨#[]⟩ : ByteArray) (⟨#[]⟩ : ByteArray) false) else ((tmplpiperef11_path.f (rdOf ByteArray.empty l0 0)).bind fun t256 => (if t256 = true then (tmplpiperef11_form.j0 k l0 1 0 (⟨#[]⟩ : ByteArray) (⟨#[]⟩ : ByteArray) false) else (tmplpiperef11_form.j0 k y249 (-1) 0 (⟨#[]⟩ : ByteArray) (⟨#[]⟩ : ByteArray) false)))))))))) else (none))) else (none))
theorem tmplpiperef11_form.mono_l : ∀ k, (∀ y0 y1 y2 y3 y4 y5, LeO (tmplpiperef11_form.j0 k y0 y1 y2 y3 y4 y5) (tmplpiperef11_form.j0 (k + 1) y0 y1 y2 y3 y4 y5)) ∧ (∀ y0 y1 y2 y3 y4 y5 y6 y7, LeO (tmplpiperef11_form.j1 k y0 y1 y2 y3 y4 y5 y6 y7) (tmplpiperef11_form.j1 (k + 1) y0 y1 y2 y3 y4 y5 y6 y7)) ∧ (∀ y0 y1 y2 y3 y4 y5 y6, LeO (tmplpiperef11_form.j2 k y0 y1 y2 y3 y4 y5 y6) (tmplpiperef11_form.j2 (k + 1) y0 y1 y2 y3 y4 y5 y6)) ∧ (∀ y0 y1 y2 y3 y4 y5 y6 y7, LeO (tmplpiperef11_form.j3 k y0 y1 y2 y3 y4 y5 y6 y7) (tmplpiperef11_form.j3 (k + 1) y0 y1 y2 y3 y4 y5 y6 y7))
 | 0 => ⟨fun _ _ _ _ _ _ r h => by simp [tmplpiperef11_form.j0] at h, fun _ _ _ _ _ _ _ _ r h => by simp [tmplpiperef11_form.j1] at h, fun _ _ _ _ _ _ _ r h => by simp [tmplpiperef11_form.j2] at h, fun _ _ _ _ _ _ _ _ r h => by simp [tmplpiperef11_form.j3] at h⟩
 | k + 1 => by
  obtain ⟨ih0, ih1, ih2, ih3⟩ := tmplpiperef11_form.mono_l k
  refine ⟨?_, ?_, ?_, ?_⟩
  ·intro y0 y1 y2 y3 y4 y5
   unfold tmplpiperef11_form.j0
   repeat' first
   | (with_reducible exact ih0 _ _ _ _ _ _)
   | (with_reducible exact ih1 _ _ _ _ _ _ _ _)
   | (with_reducible exact ih2 _ _ _ _ _ _ _)
   | (with_reducible exact ih3 _ _ _ _ _ _ _ _)
   | (with_reducible exact tmplpiperef09_IsName.mono _ _)
   | (with_reducible exact tmplpiperef09_Split.mono _ _)
   | (with_reducible exact LeO.refl _)
   | (with_reducible exact LeO.none _)
   | (with_reducible refine LeO.ite ?_ ?_)
   | (with_reducible refine LeO.bind ?_ (fun _ => ?_))
   | exact ih0 _ _ _ _ _ _
   | exact ih1 _ _ _ _ _ _ _ _
   | exact ih2 _ _ _ _ _ _ _
   | exact ih3 _ _ _ _ _ _ _ _
   | exact tmplpiperef09_IsName.mono _ _
   | exact tmplpiperef09_Split.mono _ _
   | exact LeO.none _
   | refine LeO.ite ?_ ?_
   | refine LeO.bind ?_ (fun _ => ?_)
  ·intro y0 y1 y2 y3 y4 y5 y6 y7
   unfold tmplpiperef11_form.j1
   repeat' first
   | (with_reducible exact ih0 _ _ _ _ _ _)
   | (with_reducible exact ih1 _ _ _ _ _ _ _ _)
   | (with_reducible exact ih2 _ _ _ _ _ _ _)
   | (with_reducible exact ih3 _ _ _ _ _ _ _ _)
   | (with_reducible exact tmplpiperef09_IsName.mono _ _)
   | (with_reducible exact tmplpiperef09_Split.mono _ _)
   | (with_reducible exact LeO.refl _)
   | (with_reducible exact LeO.none _)
   | (with_reducible refine LeO.ite ?_ ?_)
   | (with_reducible refine LeO.bind ?_ (fun _ => ?_))
   | exact ih0 _ _ _ _ _ _
   | exact ih1 _ _ _ _ _ _ _ _
   | exact ih2 _ _ _ _ _ _ _
   | exact ih3 _ _ _ _ _ _ _ _
   | exact tmplpiperef09_IsName.mono _ _
   | exact tmplpiperef09_Split.mono _ _
   | exact LeO.none _
   | refine LeO.ite ?_ ?_
   | refine LeO.bind ?_ (fun _ => ?_)
  ·intro y0 y1 y2 y3 y4 y5 y6
   unfold tmplpiperef11_form.j2
   repeat' first
   | (with_reducible exact ih0 _ _ _ _ _ _)
   | (with_reducible exact ih1 _ _ _ _ _ _ _ _)
   | (with_reducible exact ih2 _ _ _ _ _ _ _)
   | (with_reducible exact ih3 _ _ _ _ _ _ _ _)
   | (with_reducible exact tmplpiperef09_IsName.mono _ _)
   | (with_reducible exact tmplpiperef09_Split.mono _ _)
   | (with_reducible exact LeO.refl _)
   | (with_reducible exact LeO.none _)
   | (with_reducible refine LeO.ite ?_ ?_)
   | (with_reducible refine LeO.bind ?_ (fun _ => ?_))
   | exact ih0 _ _ _ _ _ _
   | exact ih1 _ _ _ _ _ _ _ _
   | exact ih2 _ _ _ _ _ _ _
   | exact ih3 _ _ _ _ _ _ _ _
   | exact tmplpiperef09_IsName.mono _ _
   | exact tmplpiperef09_Split.mono _ _
   | exact LeO.none _
   | refine LeO.ite ?_ ?_
   | refine LeO.bind ?_ (fun _ => ?_)
  ·intro y0 y1 y2 y3 y4 y5 y6 y7
   unfold tmplpiperef11_form.j3
   repeat' first
   | (with_reducible exact ih0 _ _ _ _ _ _)
   | (with_reducible exact ih1 _ _ _ _ _ _ _ _)
   | (with_reducible exact ih2 _ _ _ _ _ _ _)
   | (with_reducible exact ih3 _ _ _ _ _ _ _ _)
   | (with_reducible exact tmplpiperef09_IsName.mono _ _)
   | (with_reducible exact tmplpiperef09_Split.mono _ _)
   | (with_reducible exact LeO.refl _)
   | (with_reducible exact LeO.none _)
   | (with_reducible refine LeO.ite ?_ ?_)
   | (with_reducible refine LeO.bind ?_ (fun _ => ?_))
   | exact ih0 _ _ _ _ _ _
   | exact ih1 _ _ _ _ _ _ _ _
   | exact ih2 _ _ _ _ _ _ _
   | exact ih3 _ _ _ _ _ _ _ _
   | exact tmplpiperef09_IsName.mono _ _
   | exact tmplpiperef09_Split.mono _ _
   | exact LeO.none _
   | refine LeO.ite ?_ ?_
   | refine LeO.bind ?_ (fun _ => ?_)
theorem tmplpiperef11_form.mono : ∀ a0 k, LeO (tmplpiperef11_form.f k a0) (tmplpiperef11_form.f (k + 1) a0) := by
 intro a0 k
 obtain ⟨ih0, ih1, ih2, ih3⟩ := tmplpiperef11_form.mono_l k
 unfold tmplpiperef11_form.f
 repeat' first
   | (with_reducible exact ih0 _ _ _ _ _ _)
   | (with_reducible exact ih1 _ _ _ _ _ _ _ _)
   | (with_reducible exact ih2 _ _ _ _ _ _ _)
   | (with_reducible exact ih3 _ _ _ _ _ _ _ _)
   | (with_reducible exact tmplpiperef09_IsName.mono _ _)
   | (with_reducible exact tmplpiperef09_Split.mono _ _)
   | (with_reducible exact LeO.refl _)
   | (with_reducible exact LeO.none _)
   | (with_reducible refine LeO.ite ?_ ?_)
   | (with_reducible refine LeO.bind ?_ (fun _ => ?_))
   | exact ih0 _ _ _ _ _ _
   | exact ih1 _ _ _ _ _ _ _ _
   | exact ih2 _ _ _ _ _ _ _
   | exact ih3 _ _ _ _ _ _ _ _
   | exact tmplpiperef09_IsName.mono _ _
   | exact tmplpiperef09_Split.mono _ _
   | exact LeO.none _
   | refine LeO.ite ?_ ?_
   | refine LeO.bind ?_ (fun _ => ?_)
set_option maxHeartbeats 8000000 in
set_option maxRecDepth 100000 in
theorem tmplpiperef11_form.calls (k : Nat) (P0_ : Nat → Prop) (A0 : Option Addr) (c0 : Nat) (l0 : List ByteArray) (r1 : Int) (r2 : Int) (r3 : ByteArray) (r4 : ByteArray) (r5 : Bool) (r6 : Bool) (r7 : Bool) (w : World) (hs0 : Kd.V Kd.string 9 w w.heap.size (fun k_ => P0_ k_) (.slice A0 l0.length c0) l0) (h : tmplpiperef11_form.f k l0 = some (r1, r2, r3, r4, r5, r6, r7)) :
  Calls Tryd.prog 66 #[.slice A0 l0.length c0] w fun e w' => e = .returned (.tuple #[.agg #[.int .i64 r1, .int .i64 r2, .string r3, .string r4, .bool r5], .bool r6, .bool r7]) ∧ Below w.heap.size w w' := by
 have hu140 := Tryd.underlying140
 have HO0 := Aside0.mk (show Kd.V Kd.string 9 w w.heap.size (fun k_ => (P0_ k_ ∨ w.heap.size ≤ k_)) (.slice A0 l0.length c0) l0 from Kd.V_mono hs0 (fun k_ hk => .inl hk))
 have HB := Aside0.mk (Below.refl w.heap.size w)
 have H : (if (l0.length : Int) = 0 then (some ((-1), 0, (⟨#[]⟩ : ByteArray), (⟨#[]⟩ : ByteArray), false, false, false)) else (if 1 ≤ (l0.length : Int) then ((some (l0.drop 1 : List ByteArray)).bind fun y249 => (if 0 < (l0.length : Int) then (if (rdOf ByteArray.empty l0 0).toList = ([105, 102] : List UInt8) then (tmplpiperef11_form.j0 k y249 2 0 (⟨#[]⟩ : ByteArray) (⟨#[]⟩ : ByteArray) false) else (if (rdOf ByteArray.empty l0 0).toList = ([114, 97, 110, 103, 101] : List UInt8) then (tmplpiperef11_form.j0 k y249 3 0 (⟨#[]⟩ : ByteArray) (⟨#[]⟩ : ByteArray) false) else (if (rdOf ByteArray.empty l0 0).toList = ([99, 97, 108, 108] : List UInt8) then (tmplpiperef11_form.j0 k y249 4 0 (⟨#[]⟩ : ByteArray) (⟨#[]⟩ : ByteArray) false) else (if (rdOf ByteArray.empty l0 0).toList = ([102, 108, 117, 115, 104] : List UInt8) then (tmplpiperef11_form.j0 k y249 5 0 (⟨#[]⟩ : ByteArray) (⟨#[]⟩ : ByteArray) false) else (if (rdOf ByteArray.empty l0 0).toList = ([100, 101, 102, 105, 110, 101] : List UInt8) then (tmplpiperef11_form.j0 k y249 6 0 (⟨#[]⟩ : ByteArray) (⟨#[]⟩ : ByteArray) false) else (if (rdOf ByteArray.empty l0 0).toList = ([101, 108, 115, 101] : List UInt8) then (tmplpiperef11_form.j0 k y249 7 0 (⟨#[]⟩ : ByteArray) (⟨#[]⟩ : ByteArray) false) else (if (rdOf ByteArray.empty l0 0).toList = ([101, 110, 100] : List UInt8) then (tmplpiperef11_form.j0 k y249 8 0 (⟨#[]⟩ : ByteArray) (⟨#[]⟩ : ByteArray) false) else ((tmplpiperef11_path.f (rdOf ByteArray.empty l0 0)).bind fun t256 => (if t256 = true then (tmplpiperef11_form.j0 k l0 1 0 (⟨#[]⟩ : ByteArray) (⟨#[]⟩ : ByteArray) false) else (tmplpiperef11_form.j0 k y249 (-1) 0 (⟨#[]⟩ : ByteArray) (⟨#[]⟩ : ByteArray) false)))))))))) else (none))) else (none))) = some (r1, r2, r3, r4, r5, r6, r7) := h
 clear h
 by_cases c2 : (l0.length : Int) = 0
 ·rw [if_pos c2] at H
  have c2b0 : ((l0.length : Int) == 0) = true := beq_iff_eq.mpr c2
  have c2b1 : ((l0.length : Int) != 0) = false := bne_eq_false_iff_eq.mpr c2
  clear c2
  simp only [Option.some.injEq, Prod.mk.injEq] at H
  obtain ⟨rfl, rfl, rfl, rfl, rfl, rfl, rfl⟩ := H
  go_enter Tryd.func66, Tryd.ntmps66
  go_wp2_with (first | ((with_reducible refine gate_dst (N := 2) rfl ?_); (try (refine gate_guard (by rfl) ?_; dsimp only)); refine box_event ?hg (N := 2) ?hd (cs := #[.int .i64 0, .int .i64 0, .string (⟨#[]⟩ : ByteArray), .string (⟨#[]⟩ : ByteArray), .bool false]) (t := 140) ?hr ?_; (case hd => rfl); (case hg => rfl); (case hr => first | (go_simp; done) | (go_simp; rfl)); intro gb247 hg w3 hbox hb; have n0_ := Aside0.mk (Kd.V_below (Kd.V_elderB (by (with_reducible repeat (first | apply Kd.V_alloc | apply Kd.V_drewN | apply Kd.V_drew)); exact HO0.out) gb247 (Nat.le_of_eq hg.symm)) hb); have n1_ := Aside0.mk (below_step (by repeat (first | (with_reducible first | exact HB.out | apply below_alloc | apply pw_below_drewN | apply below_drew1) | exact HB.out)) hb); have n2_ := Aside0.mk (hbox); have n3_ := Aside0.mk ((by rw [hg]; exact (below_size (by repeat (first | (with_reducible first | exact HB.out | apply below_alloc | apply pw_below_drewN | apply below_drew1) | exact HB.out))) : w.heap.size ≤ gb247)); have n4_ := Aside0.mk ((by rw [hg]; exact (below_size (by repeat (first | (with_reducible first | exact HB.out | apply below_alloc | apply pw_below_drewN | apply below_drew1) | exact HB.out))) : w.heap.size ≤ gb247)); clear HO0; clear HB; have HO0 := n0_; have HB := n1_; have BK247 := n2_; have GW247 := n3_; have GE247 := n4_; clear n0_ n1_ n2_ n3_ n4_; clear hb hbox hg) | ((with_reducible refine gate_dst (N := 5) rfl ?_); (try (refine gate_guard (by rfl) ?_; dsimp only)); refine box_event ?hg (N := 5) ?hd (cs := #[.int .i64 0, .int .i64 0, .string (⟨#[]⟩ : ByteArray), .string (⟨#[]⟩ : ByteArray), .bool false]) (t := 140) ?hr ?_; (case hd => rfl); (case hg => rfl); (case hr => first | (go_simp; done) | (go_simp; rfl)); intro gb248 hg w4 hbox hb; have n0_ := Aside0.mk (Kd.V_below (Kd.V_elderB (by (with_reducible repeat (first | apply Kd.V_alloc | apply Kd.V_drewN | apply Kd.V_drew)); exact HO0.out) gb248 (Nat.le_of_eq hg.symm)) hb); have n1_ := Aside0.mk (blk_below (g := gb247) (o := .cells #[.int .i64 0, .int .i64 0, .string (⟨#[]⟩ : ByteArray), .string (⟨#[]⟩ : ByteArray), .bool false] 140 (0, 0)) (by (with_reducible repeat (first | refine blk_drewN ?_ _ | refine blk_drew ?_ | refine blk_alloc ?_ _)); exact BK247.out) hb); have n2_ := Aside0.mk (below_step (by repeat (first | (with_reducible first | exact HB.out | apply below_alloc | apply pw_below_drewN | apply below_drew1 | refine below_set ?_ GE247.out) | exact HB.out)) hb); have n3_ := Aside0.mk (hbox); have n4_ := Aside0.mk ((by rw [hg]; exact (below_size (by repeat (first | (with_reducible first | exact HB.out | apply below_alloc | apply pw_below_drewN | apply below_drew1 | refine below_set ?_ GE247.out) | exact HB.out))) : w.heap.size ≤ gb248)); have n5_ := Aside0.mk ((by rw [hg]; exact (below_size (by repeat (first | (with_reducible first | exact HB.out | apply below_alloc | apply pw_below_drewN | apply below_drew1 | refine below_set ?_ GE247.out) | exact HB.out))) : w.heap.size ≤ gb248)); have n6_ := Aside0.mk ((by rw [hg]; exact Nat.ne_of_lt (blk_lt (g := gb247) (o := .cells #[.int .i64 0, .int .i64 0, .string (⟨#[]⟩ : ByteArray), .string (⟨#[]⟩ : ByteArray), .bool false] 140 (0, 0)) (by (with_reducible repeat (first | refine blk_drewN ?_ _ | refine blk_drew ?_ | refine blk_alloc ?_ _)); exact BK247.out)) : gb247 ≠ gb248)); have n7_ := Aside0.mk ((by rw [hg]; exact Nat.ne_of_gt (blk_lt (g := gb247) (o := .cells #[.int .i64 0, .int .i64 0, .string (⟨#[]⟩ : ByteArray), .string (⟨#[]⟩ : ByteArray), .bool false] 140 (0, 0)) (by (with_reducible repeat (first | refine blk_drewN ?_ _ | refine blk_drew ?_ | refine blk_alloc ?_ _)); exact BK247.out)) : gb248 ≠ gb247)); clear HO0; clear BK247; clear HB; have HO0 := n0_; have BK247 := n1_; have HB := n2_; have BK248 := n3_; have GW248 := n4_; have GE248 := n5_; have NB247_248 := n6_; have NB248_247 := n7_; clear n0_ n1_ n2_ n3_ n4_ n5_ n6_ n7_; clear hb hbox hg; have hnb5 := NB248_247.out; have hnc5 := NB247_248.out; have hcz6_0 : w4.cell? ⟨gb248, 0, none⟩ = some (.int .i64 0) := (blk_cell BK248.out 0).trans rfl; have hcz6_1 : w4.cell? ⟨gb248, 1, none⟩ = some (.int .i64 0) := (blk_cell BK248.out 1).trans rfl; have hcz6_2 : w4.cell? ⟨gb248, 2, none⟩ = some (.string (⟨#[]⟩ : ByteArray)) := (blk_cell BK248.out 2).trans rfl; have hcz6_3 : w4.cell? ⟨gb248, 3, none⟩ = some (.string (⟨#[]⟩ : ByteArray)) := (blk_cell BK248.out 3).trans rfl; have hcz6_4 : w4.cell? ⟨gb248, 4, none⟩ = some (.bool false) := (blk_cell BK248.out 4).trans rfl; have hfz6_0 := blk_frozen BK248.out 0; have hfz6_1 := blk_frozen BK248.out 1; have hfz6_2 := blk_frozen BK248.out 2; have hfz6_3 := blk_frozen BK248.out 3; have hfz6_4 := blk_frozen BK248.out 4; have hcz7_0 : w4.cell? ⟨gb247, 0, none⟩ = some (.int .i64 0) := (blk_cell BK247.out 0).trans rfl; have hcz7_1 : w4.cell? ⟨gb247, 1, none⟩ = some (.int .i64 0) := (blk_cell BK247.out 1).trans rfl; have hcz7_2 : w4.cell? ⟨gb247, 2, none⟩ = some (.string (⟨#[]⟩ : ByteArray)) := (blk_cell BK247.out 2).trans rfl; have hcz7_3 : w4.cell? ⟨gb247, 3, none⟩ = some (.string (⟨#[]⟩ : ByteArray)) := (blk_cell BK247.out 3).trans rfl; have hcz7_4 : w4.cell? ⟨gb247, 4, none⟩ = some (.bool false) := (blk_cell BK247.out 4).trans rfl; have hfz7_0 := blk_frozen BK247.out 0; have hfz7_1 := blk_frozen BK247.out 1; have hfz7_2 := blk_frozen BK247.out 2; have hfz7_3 := blk_frozen BK247.out 3; have hfz7_4 := blk_frozen BK247.out 4))
  refine bodyPost_ret (results_ctt rfl _ _ gb247 140 #[.int .i64 (-1), .int .i64 0, .string (⟨#[]⟩ : ByteArray), .string (⟨#[]⟩ : ByteArray), .bool false] (0, 0) _ rfl (by (with_reducible repeat (first | refine blk_drewN ?_ _ | refine blk_drew ?_ | refine blk_alloc ?_ _)); refine blk_put (cs := #[.int .i64 (-1), .int .i64 0, .string (⟨#[]⟩ : ByteArray), .string (⟨#[]⟩ : ByteArray), .bool false]) ?_ 4 _ rfl; (with_reducible repeat (first | refine blk_drewN ?_ _ | refine blk_drew ?_ | refine blk_alloc ?_ _)); refine blk_put (cs := #[.int .i64 (-1), .int .i64 0, .string (⟨#[]⟩ : ByteArray), .string (⟨#[]⟩ : ByteArray), .bool false]) ?_ 3 _ rfl; (with_reducible repeat (first | refine blk_drewN ?_ _ | refine blk_drew ?_ | refine blk_alloc ?_ _)); refine blk_put (cs := #[.int .i64 (-1), .int .i64 0, .string (⟨#[]⟩ : ByteArray), .string (⟨#[]⟩ : ByteArray), .bool false]) ?_ 2 _ rfl; (with_reducible repeat (first | refine blk_drewN ?_ _ | refine blk_drew ?_ | refine blk_alloc ?_ _)); refine blk_put (cs := #[.int .i64 (-1), .int .i64 0, .string (⟨#[]⟩ : ByteArray), .string (⟨#[]⟩ : ByteArray), .bool false]) ?_ 1 _ rfl; (with_reducible repeat (first | refine blk_drewN ?_ _ | refine blk_drew ?_ | refine blk_alloc ?_ _)); refine blk_put (cs := #[.int .i64 0, .int .i64 0, .string (⟨#[]⟩ : ByteArray), .string (⟨#[]⟩ : ByteArray), .bool false]) ?_ 0 _ rfl; (with_reducible repeat (first | refine blk_drewN ?_ _ | refine blk_drew ?_ | refine blk_alloc ?_ _)); refine blk_far ?_ NB247_248.out _; (with_reducible repeat (first | refine blk_drewN ?_ _ | refine blk_drew ?_ | refine blk_alloc ?_ _)); refine blk_far ?_ NB247_248.out _; (with_reducible repeat (first | refine blk_drewN ?_ _ | refine blk_drew ?_ | refine blk_alloc ?_ _)); refine blk_far ?_ NB247_248.out _; (with_reducible repeat (first | refine blk_drewN ?_ _ | refine blk_drew ?_ | refine blk_alloc ?_ _)); refine blk_far ?_ NB247_248.out _; (with_reducible repeat (first | refine blk_drewN ?_ _ | refine blk_drew ?_ | refine blk_alloc ?_ _)); refine blk_far ?_ NB247_248.out _; (with_reducible repeat (first | refine blk_drewN ?_ _ | refine blk_drew ?_ | refine blk_alloc ?_ _)); exact BK247.out) Tryd.underlying140 rfl (by kernel_rfl)) rfl ?_
  exact ⟨by first | rfl | (simp [errW_none, errW_some] <;> rfl) | (simp [*, errW_none, errW_some] <;> rfl), by repeat (first | (with_reducible first | exact HB.out | apply below_alloc | apply pw_below_drewN | apply below_drew1 | refine below_set ?_ GE247.out | refine below_set ?_ GE248.out) | exact HB.out)⟩
 ·rw [if_neg c2] at H
  have c2b0 : ((l0.length : Int) == 0) = false := beq_eq_false_iff_ne.mpr c2
  have c2b1 : ((l0.length : Int) != 0) = true := bne_iff_ne.mpr c2
  have c2b2 : ¬ (l0 = []) := fun h_ => c2 (by rw [h_]; rfl)
  by_cases c8 : 1 ≤ (l0.length : Int)
  ·rw [if_pos c8] at H
   have c8b0 := eq_true c8
   have c8b1 : decide (1 ≤ (l0.length : Int)) = true := decide_eq_true c8
   clear c8
   obtain ⟨y249, hy249⟩ : ∃ y_ : List ByteArray, y_ = (l0.drop 1) := ⟨_, rfl⟩
   replace H : (if 0 < (l0.length : Int) then (if (rdOf ByteArray.empty l0 0).toList = ([105, 102] : List UInt8) then (tmplpiperef11_form.j0 k y249 2 0 (⟨#[]⟩ : ByteArray) (⟨#[]⟩ : ByteArray) false) else (if (rdOf ByteArray.empty l0 0).toList = ([114, 97, 110, 103, 101] : List UInt8) then (tmplpiperef11_form.j0 k y249 3 0 (⟨#[]⟩ : ByteArray) (⟨#[]⟩ : ByteArray) false) else (if (rdOf ByteArray.empty l0 0).toList = ([99, 97, 108, 108] : List UInt8) then (tmplpiperef11_form.j0 k y249 4 0 (⟨#[]⟩ : ByteArray) (⟨#[]⟩ : ByteArray) false) else (if (rdOf ByteArray.empty l0 0).toList = ([102, 108, 117, 115, 104] : List UInt8) then (tmplpiperef11_form.j0 k y249 5 0 (⟨#[]⟩ : ByteArray) (⟨#[]⟩ : ByteArray) false) else (if (rdOf ByteArray.empty l0 0).toList = ([100, 101, 102, 105, 110, 101] : List UInt8) then (tmplpiperef11_form.j0 k y249 6 0 (⟨#[]⟩ : ByteArray) (⟨#[]⟩ : ByteArray) false) else (if (rdOf ByteArray.empty l0 0).toList = ([101, 108, 115, 101] : List UInt8) then (tmplpiperef11_form.j0 k y249 7 0 (⟨#[]⟩ : ByteArray) (⟨#[]⟩ : ByteArray) false) else (if (rdOf ByteArray.empty l0 0).toList = ([101, 110, 100] : List UInt8) then (tmplpiperef11_form.j0 k y249 8 0 (⟨#[]⟩ : ByteArray) (⟨#[]⟩ : ByteArray) false) else ((tmplpiperef11_path.f (rdOf ByteArray.empty l0 0)).bind fun t256 => (if t256 = true then (tmplpiperef11_form.j0 k l0 1 0 (⟨#[]⟩ : ByteArray) (⟨#[]⟩ : ByteArray) false) else (tmplpiperef11_form.j0 k y249 (-1) 0 (⟨#[]⟩ : ByteArray) (⟨#[]⟩ : ByteArray) false)))))))))) else (none)) = some (r1, r2, r3, r4, r5, r6, r7) := by first | (rw [hy249]; with_reducible exact H) | (have H2_ := (Option.bind_some _ _).symm.trans H; rw [hy249]; with_reducible exact H2_) | (have H2_ := (Option.bind_some _ _).symm.trans H; with_reducible exact H2_) | with_reducible exact H | (rw [hy249]; exact H) | exact H
   have Ny249 := Aside0.mk hy249
   clear hy249
   by_cases c9 : 0 < (l0.length : Int)
   ·rw [if_pos c9] at H
    have c9b0 : decide (0 < (l0.length : Int)) = true := decide_eq_true c9
    have c9b1 : decide (0 < l0.length) = true := decide_eq_true (by omega)
    clear c9
    have HC10 := Aside0.mk H
    clear H
    go_enter Tryd.func66, Tryd.ntmps66
    go_upto_block 0 with (first | ((with_reducible refine gate_dst (N := 2) rfl ?_); (try (refine gate_guard (by rfl) ?_; dsimp only)); refine box_event ?hg (N := 2) ?hd (cs := #[.int .i64 0, .int .i64 0, .string (⟨#[]⟩ : ByteArray), .string (⟨#[]⟩ : ByteArray), .bool false]) (t := 140) ?hr ?_; (case hd => rfl); (case hg => rfl); (case hr => first | (go_simp; done) | (go_simp; rfl)); intro gb247 hg w11 hbox hb; have n0_ := Aside0.mk (Kd.V_below (Kd.V_elderB (by (with_reducible repeat (first | apply Kd.V_alloc | apply Kd.V_drewN | apply Kd.V_drew)); exact HO0.out) gb247 (Nat.le_of_eq hg.symm)) hb); have n1_ := Aside0.mk (below_step (by repeat (first | (with_reducible first | exact HB.out | apply below_alloc | apply pw_below_drewN | apply below_drew1) | exact HB.out)) hb); have n2_ := Aside0.mk (hbox); have n3_ := Aside0.mk ((by rw [hg]; exact (below_size (by repeat (first | (with_reducible first | exact HB.out | apply below_alloc | apply pw_below_drewN | apply below_drew1) | exact HB.out))) : w.heap.size ≤ gb247)); have n4_ := Aside0.mk ((by rw [hg]; exact (below_size (by repeat (first | (with_reducible first | exact HB.out | apply below_alloc | apply pw_below_drewN | apply below_drew1) | exact HB.out))) : w.heap.size ≤ gb247)); clear HO0; clear HB; have HO0 := n0_; have HB := n1_; have BK247 := n2_; have GW247 := n3_; have GE247 := n4_; clear n0_ n1_ n2_ n3_ n4_; clear hb hbox hg) | ((with_reducible refine gate_dst (N := 5) rfl ?_); (try (refine gate_guard (by rfl) ?_; dsimp only)); refine box_event ?hg (N := 5) ?hd (cs := #[.int .i64 0, .int .i64 0, .string (⟨#[]⟩ : ByteArray), .string (⟨#[]⟩ : ByteArray), .bool false]) (t := 140) ?hr ?_; (case hd => rfl); (case hg => rfl); (case hr => first | (go_simp; done) | (go_simp; rfl)); intro gb248 hg w12 hbox hb; have n0_ := Aside0.mk (Kd.V_below (Kd.V_elderB (by (with_reducible repeat (first | apply Kd.V_alloc | apply Kd.V_drewN | apply Kd.V_drew)); exact HO0.out) gb248 (Nat.le_of_eq hg.symm)) hb); have n1_ := Aside0.mk (blk_below (g := gb247) (o := .cells #[.int .i64 0, .int .i64 0, .string (⟨#[]⟩ : ByteArray), .string (⟨#[]⟩ : ByteArray), .bool false] 140 (0, 0)) (by (with_reducible repeat (first | refine blk_drewN ?_ _ | refine blk_drew ?_ | refine blk_alloc ?_ _)); exact BK247.out) hb); have n2_ := Aside0.mk (below_step (by repeat (first | (with_reducible first | exact HB.out | apply below_alloc | apply pw_below_drewN | apply below_drew1 | refine below_set ?_ GE247.out) | exact HB.out)) hb); have n3_ := Aside0.mk (hbox); have n4_ := Aside0.mk ((by rw [hg]; exact (below_size (by repeat (first | (with_reducible first | exact HB.out | apply below_alloc | apply pw_below_drewN | apply below_drew1 | refine below_set ?_ GE247.out) | exact HB.out))) : w.heap.size ≤ gb248)); have n5_ := Aside0.mk ((by rw [hg]; exact (below_size (by repeat (first | (with_reducible first | exact HB.out | apply below_alloc | apply pw_below_drewN | apply below_drew1 | refine below_set ?_ GE247.out) | exact HB.out))) : w.heap.size ≤ gb248)); have n6_ := Aside0.mk ((by rw [hg]; exact Nat.ne_of_lt (blk_lt (g := gb247) (o := .cells #[.int .i64 0, .int .i64 0, .string (⟨#[]⟩ : ByteArray), .string (⟨#[]⟩ : ByteArray), .bool false] 140 (0, 0)) (by (with_reducible repeat (first | refine blk_drewN ?_ _ | refine blk_drew ?_ | refine blk_alloc ?_ _)); exact BK247.out)) : gb247 ≠ gb248)); have n7_ := Aside0.mk ((by rw [hg]; exact Nat.ne_of_gt (blk_lt (g := gb247) (o := .cells #[.int .i64 0, .int .i64 0, .string (⟨#[]⟩ : ByteArray), .string (⟨#[]⟩ : ByteArray), .bool false] 140 (0, 0)) (by (with_reducible repeat (first | refine blk_drewN ?_ _ | refine blk_drew ?_ | refine blk_alloc ?_ _)); exact BK247.out)) : gb248 ≠ gb247)); clear HO0; clear BK247; clear HB; have HO0 := n0_; have BK247 := n1_; have HB := n2_; have BK248 := n3_; have GW248 := n4_; have GE248 := n5_; have NB247_248 := n6_; have NB248_247 := n7_; clear n0_ n1_ n2_ n3_ n4_ n5_ n6_ n7_; clear hb hbox hg; have hnb13 := NB248_247.out; have hnc13 := NB247_248.out; have hcz14_0 : w12.cell? ⟨gb248, 0, none⟩ = some (.int .i64 0) := (blk_cell BK248.out 0).trans rfl; have hcz14_1 : w12.cell? ⟨gb248, 1, none⟩ = some (.int .i64 0) := (blk_cell BK248.out 1).trans rfl; have hcz14_2 : w12.cell? ⟨gb248, 2, none⟩ = some (.string (⟨#[]⟩ : ByteArray)) := (blk_cell BK248.out 2).trans rfl; have hcz14_3 : w12.cell? ⟨gb248, 3, none⟩ = some (.string (⟨#[]⟩ : ByteArray)) := (blk_cell BK248.out 3).trans rfl; have hcz14_4 : w12.cell? ⟨gb248, 4, none⟩ = some (.bool false) := (blk_cell BK248.out 4).trans rfl; have hfz14_0 := blk_frozen BK248.out 0; have hfz14_1 := blk_frozen BK248.out 1; have hfz14_2 := blk_frozen BK248.out 2; have hfz14_3 := blk_frozen BK248.out 3; have hfz14_4 := blk_frozen BK248.out 4) | ((with_reducible refine gate_store (t := 140) (p := 5) rfl ?_); refine store_event (t := 140) (p := 5) (v := ?vo_w15) (w1 := (((((w12.setCell ⟨gb248, 0, none⟩ (.int .i64 (-1))).setCell ⟨gb248, 1, none⟩ (.int .i64 0)).setCell ⟨gb248, 2, none⟩ (.string (⟨#[]⟩ : ByteArray))).setCell ⟨gb248, 3, none⟩ (.string (⟨#[]⟩ : ByteArray))).setCell ⟨gb248, 4, none⟩ (.bool false))) ?hg ?ho ?hn ?hr ?_; (case ho => rfl); (case hg => rfl); (case hn => rfl); (case hr => first | (go_simp; done) | (go_simp; rfl)); intro w15 hw; have n0_ : Aside0 (Kd.V Kd.string 9 w15 w.heap.size (fun k_ => (P0_ k_ ∨ w.heap.size ≤ k_) ∧ k_ ≠ gb247 ∧ k_ ≠ gb248) (.slice A0 l0.length c0) l0) := ⟨(by rw [hw]; exact (by (with_reducible repeat (first | apply Kd.V_alloc | apply Kd.V_drewN | apply Kd.V_drew)); exact Kd.V_mono (Kd.V_far (p := ⟨gb248, 4, none⟩) (Kd.V_far (p := ⟨gb248, 3, none⟩) (Kd.V_far (p := ⟨gb248, 2, none⟩) (Kd.V_far (p := ⟨gb248, 1, none⟩) (Kd.V_far (p := ⟨gb248, 0, none⟩) (Kd.V_mono HO0.out (fun k_ hk => (⟨hk, hk.2⟩ : _ ∧ k_ ≠ gb248))) (fun _ hk => hk.2) (.int .i64 (-1))) (fun _ hk => hk.2) (.int .i64 0)) (fun _ hk => hk.2) (.string (⟨#[]⟩ : ByteArray))) (fun _ hk => hk.2) (.string (⟨#[]⟩ : ByteArray))) (fun _ hk => hk.2) (.bool false)) (fun _ hk => ⟨hk.1.1.1, ⟨hk.1.1.2, hk.1.2⟩⟩)))⟩; have n1_ : Aside0 (w15.heap[gb247]? = some (.cells #[.int .i64 0, .int .i64 0, .string (⟨#[]⟩ : ByteArray), .string (⟨#[]⟩ : ByteArray), .bool false] 140 (0, 0))) := ⟨(by rw [hw]; exact (by (with_reducible repeat (first | refine blk_drewN ?_ _ | refine blk_drew ?_ | refine blk_alloc ?_ _)); refine blk_far ?_ NB247_248.out _; (with_reducible repeat (first | refine blk_drewN ?_ _ | refine blk_drew ?_ | refine blk_alloc ?_ _)); refine blk_far ?_ NB247_248.out _; (with_reducible repeat (first | refine blk_drewN ?_ _ | refine blk_drew ?_ | refine blk_alloc ?_ _)); refine blk_far ?_ NB247_248.out _; (with_reducible repeat (first | refine blk_drewN ?_ _ | refine blk_drew ?_ | refine blk_alloc ?_ _)); refine blk_far ?_ NB247_248.out _; (with_reducible repeat (first | refine blk_drewN ?_ _ | refine blk_drew ?_ | refine blk_alloc ?_ _)); refine blk_far ?_ NB247_248.out _; (with_reducible repeat (first | refine blk_drewN ?_ _ | refine blk_drew ?_ | refine blk_alloc ?_ _)); exact BK247.out))⟩; have n2_ : Aside0 (w15.heap[gb248]? = some (.cells #[.int .i64 (-1), .int .i64 0, .string (⟨#[]⟩ : ByteArray), .string (⟨#[]⟩ : ByteArray), .bool false] 140 (0, 0))) := ⟨(by rw [hw]; exact (by (with_reducible repeat (first | refine blk_drewN ?_ _ | refine blk_drew ?_ | refine blk_alloc ?_ _)); refine blk_put (cs := #[.int .i64 (-1), .int .i64 0, .string (⟨#[]⟩ : ByteArray), .string (⟨#[]⟩ : ByteArray), .bool false]) ?_ 4 _ rfl; (with_reducible repeat (first | refine blk_drewN ?_ _ | refine blk_drew ?_ | refine blk_alloc ?_ _)); refine blk_put (cs := #[.int .i64 (-1), .int .i64 0, .string (⟨#[]⟩ : ByteArray), .string (⟨#[]⟩ : ByteArray), .bool false]) ?_ 3 _ rfl; (with_reducible repeat (first | refine blk_drewN ?_ _ | refine blk_drew ?_ | refine blk_alloc ?_ _)); refine blk_put (cs := #[.int .i64 (-1), .int .i64 0, .string (⟨#[]⟩ : ByteArray), .string (⟨#[]⟩ : ByteArray), .bool false]) ?_ 2 _ rfl; (with_reducible repeat (first | refine blk_drewN ?_ _ | refine blk_drew ?_ | refine blk_alloc ?_ _)); refine blk_put (cs := #[.int .i64 (-1), .int .i64 0, .string (⟨#[]⟩ : ByteArray), .string (⟨#[]⟩ : ByteArray), .bool false]) ?_ 1 _ rfl; (with_reducible repeat (first | refine blk_drewN ?_ _ | refine blk_drew ?_ | refine blk_alloc ?_ _)); refine blk_put (cs := #[.int .i64 0, .int .i64 0, .string (⟨#[]⟩ : ByteArray), .string (⟨#[]⟩ : ByteArray), .bool false]) ?_ 0 _ rfl; (with_reducible repeat (first | refine blk_drewN ?_ _ | refine blk_drew ?_ | refine blk_alloc ?_ _)); exact BK248.out))⟩; have n3_ : Aside0 (Below w.heap.size w w15) := ⟨(by rw [hw]; exact (by repeat (first | (with_reducible first | exact HB.out | apply below_alloc | apply pw_below_drewN | apply below_drew1 | refine below_set ?_ GE247.out | refine below_set ?_ GE248.out) | exact HB.out)))⟩; clear hw; clear HO0; clear BK247; clear BK248; clear HB; have HO0 := n0_; have BK247 := n1_; have BK248 := n2_; have HB := n3_; clear n0_ n1_ n2_ n3_; have q16 : (1 : Int) ≤ ((l0.length : Int) : Int) := of_decide_eq_true (by first | (with_reducible assumption) | assumption); obtain ⟨i016, hi016, _, hsz16, _⟩ := info_parts info9; have hroom16 : l0.length ≤ c0 := (Kd.V_reads' HO0.out).2.1; have hC16 : Kd.F Kd.string _ _ A0 l0.length l0 := (Kd.V_at (base := w.heap.size) HO0.out).2.2; have hcut16 := cut_from (P := Tryd.prog) 114 9 .i64 Tryd.underlying114 hi016 1 hsz16 A0 l0.length c0 1 (by omega) q16; have hr16 := Kd.F_cut (m := (1 : Int).toNat) (c := c0) hC16 (by omega) hroom16; obtain ⟨A16, hA16⟩ : ∃ A1, A1 = (if c0 = (1 : Int).toNat then A0 else (A0 : Option Addr).map (·.add ((1 : Int).toNat * 1))) := ⟨_, rfl⟩; obtain ⟨c16, hc16⟩ : ∃ c1, c1 = c0 - (1 : Int).toNat := ⟨_, rfl⟩; have hy16 : y249.length = l0.length - (1 : Int).toNat := (by rw [Ny249.out, List.length_drop] <;> omega); rw [show (l0).drop (1 : Int).toNat = y249 from Ny249.out.symm] at hr16; replace hr16 : Kd.F Kd.string _ _ A16 y249.length y249 := (by rw [hA16]; exact hr16); rw [← hy16, ← hA16, ← hc16] at hcut16; have HO253 := Aside0.mk (show Kd.V Kd.string 9 _ w.heap.size _ (.slice A16 y249.length c16) y249 from Kd.V_mk (by rw [hy16, hc16]; exact Nat.sub_le_sub_right hroom16 _) hr16); have HC253 := Aside0.mk (show y249.length ≤ c16 from by rw [hy16, hc16]; exact Nat.sub_le_sub_right hroom16 _); clear hr16 hC16 hroom16 hi016 hsz16 hc16; have KY16 := Aside0.mk hy16; have KA16 := Aside0.mk hA16; clear hy16 hA16; replace q16 := eq_true q16; have p254 : 0 ≤ (0 : Int) := (by omega); have q254 : 0 < (l0.length : Int) := of_decide_eq_true (by first | (with_reducible assumption) | assumption); obtain ⟨ad254, e254, hx254_0⟩ := Kd.at_string (Kd.V_reads' HO0.out).2.2 0 p254 q254; cases e254; have qi254 : (0 < l0.length) = True := eq_true (by omega); (try rw [show ((0 : Int)).toNat = 0 from rfl] at hx254_0); (try rw [Addr.add_zero'] at hx254_0); replace p254 := eq_true p254; replace q254 := eq_true q254))
    (try simp only [Act.put, List.setIfInBounds_toArray, List.set_cons_zero, List.set_cons_succ])
    go_cut [6] (fun v6 wc => ∃ (kq : Nat) (x6_9 : List ByteArray) (x249000_9 : Int), Aside0 (tmplpiperef11_form.j0 kq x6_9 x249000_9 0 (⟨#[]⟩ : ByteArray) (⟨#[]⟩ : ByteArray) false = some (r1, r2, r3, r4, r5, r6, r7)) ∧ Aside0 (kq ≤ k) ∧ Aside0 (Kd.V Kd.string 9 wc w.heap.size (fun k_ => (P0_ k_ ∨ w.heap.size ≤ k_) ∧ k_ ≠ gb247 ∧ k_ ≠ gb248) v6 x6_9) ∧ Aside0 (wc.heap[gb247]? = some (.cells #[.int .i64 0, .int .i64 0, .string (⟨#[]⟩ : ByteArray), .string (⟨#[]⟩ : ByteArray), .bool false] 140 (0, 0))) ∧ Aside0 (wc.heap[gb248]? = some (.cells #[.int .i64 x249000_9, .int .i64 0, .string (⟨#[]⟩ : ByteArray), .string (⟨#[]⟩ : ByteArray), .bool false] 140 (0, 0))) ∧ Aside0 (Below w.heap.size w wc))
    case first =>
     have H := HC10.out
     clear HC10
     by_cases c17 : (rdOf ByteArray.empty l0 0).toList = ([105, 102] : List UInt8)
     ·rw [if_pos c17] at H
      have c17b0 : ((rdOf ByteArray.empty l0 0).toList == ([105, 102] : List UInt8)) = true := beq_iff_eq.mpr c17
      have c17b1 : ((rdOf ByteArray.empty l0 0).toList != ([105, 102] : List UInt8)) = false := bne_eq_false_iff_eq.mpr c17
      clear c17
      (first | rw [c17b0] | (simp only [i64_w, i32_w]; rw [c17b0]) | skip)
      have H' := Aside0.mk H
      clear H
      have hnb18 := NB248_247.out
      have hnc18 := NB247_248.out
      have hcz19_0 : w15.cell? ⟨gb248, 0, none⟩ = some (.int .i64 (-1)) := (blk_cell BK248.out 0).trans rfl
      have hcz19_1 : w15.cell? ⟨gb248, 1, none⟩ = some (.int .i64 0) := (blk_cell BK248.out 1).trans rfl
      have hcz19_2 : w15.cell? ⟨gb248, 2, none⟩ = some (.string (⟨#[]⟩ : ByteArray)) := (blk_cell BK248.out 2).trans rfl
      have hcz19_3 : w15.cell? ⟨gb248, 3, none⟩ = some (.string (⟨#[]⟩ : ByteArray)) := (blk_cell BK248.out 3).trans rfl
      have hcz19_4 : w15.cell? ⟨gb248, 4, none⟩ = some (.bool false) := (blk_cell BK248.out 4).trans rfl
      have hfz19_0 := blk_frozen BK248.out 0
      have hfz19_1 := blk_frozen BK248.out 1
      have hfz19_2 := blk_frozen BK248.out 2
      have hfz19_3 := blk_frozen BK248.out 3
      have hfz19_4 := blk_frozen BK248.out 4
      go_wp2
      go_meet
      case rel => exact ⟨_, (y249), (2), H', ⟨by first | omega | exact Nat.le_refl _⟩, ⟨by (with_reducible repeat (first | apply Kd.V_alloc | apply Kd.V_drewN | apply Kd.V_drew)); exact Kd.V_mono (Kd.V_far (p := ⟨gb248, 0, none⟩) (Kd.V_mono HO253.out (fun k_ hk => (⟨hk, hk.2.2⟩ : _ ∧ k_ ≠ gb248))) (fun _ hk => hk.2) (.int .i64 2)) (fun _ hk => ⟨hk.1.1, ⟨hk.1.2.1, hk.1.2.2⟩⟩)⟩, ⟨by (with_reducible repeat (first | refine blk_drewN ?_ _ | refine blk_drew ?_ | refine blk_alloc ?_ _)); refine blk_far ?_ NB247_248.out _; (with_reducible repeat (first | refine blk_drewN ?_ _ | refine blk_drew ?_ | refine blk_alloc ?_ _)); exact BK247.out⟩, ⟨by (with_reducible repeat (first | refine blk_drewN ?_ _ | refine blk_drew ?_ | refine blk_alloc ?_ _)); refine blk_put (cs := #[.int .i64 (-1), .int .i64 0, .string (⟨#[]⟩ : ByteArray), .string (⟨#[]⟩ : ByteArray), .bool false]) ?_ 0 _ rfl; (with_reducible repeat (first | refine blk_drewN ?_ _ | refine blk_drew ?_ | refine blk_alloc ?_ _)); exact BK248.out⟩, ⟨by repeat (first | (with_reducible first | exact HB.out | apply below_alloc | apply pw_below_drewN | apply below_drew1 | refine below_set ?_ GE247.out | refine below_set ?_ GE248.out) | exact HB.out)⟩⟩
     ·rw [if_neg c17] at H
      have c17b0 : ((rdOf ByteArray.empty l0 0).toList == ([105, 102] : List UInt8)) = false := beq_eq_false_iff_ne.mpr c17
      have c17b1 : ((rdOf ByteArray.empty l0 0).toList != ([105, 102] : List UInt8)) = true := bne_iff_ne.mpr c17
      (first | rw [c17b0] | (simp only [i64_w, i32_w]; rw [c17b0]) | skip)
      by_cases c20 : (rdOf ByteArray.empty l0 0).toList = ([114, 97, 110, 103, 101] : List UInt8)
      ·rw [if_pos c20] at H
       have c20b0 : ((rdOf ByteArray.empty l0 0).toList == ([114, 97, 110, 103, 101] : List UInt8)) = true := beq_iff_eq.mpr c20
       have c20b1 : ((rdOf ByteArray.empty l0 0).toList != ([114, 97, 110, 103, 101] : List UInt8)) = false := bne_eq_false_iff_eq.mpr c20
       clear c20
       have H' := Aside0.mk H
       clear H
       have hnb21 := NB248_247.out
       have hnc21 := NB247_248.out
       have hcz22_0 : w15.cell? ⟨gb248, 0, none⟩ = some (.int .i64 (-1)) := (blk_cell BK248.out 0).trans rfl
       have hcz22_1 : w15.cell? ⟨gb248, 1, none⟩ = some (.int .i64 0) := (blk_cell BK248.out 1).trans rfl
       have hcz22_2 : w15.cell? ⟨gb248, 2, none⟩ = some (.string (⟨#[]⟩ : ByteArray)) := (blk_cell BK248.out 2).trans rfl
       have hcz22_3 : w15.cell? ⟨gb248, 3, none⟩ = some (.string (⟨#[]⟩ : ByteArray)) := (blk_cell BK248.out 3).trans rfl
       have hcz22_4 : w15.cell? ⟨gb248, 4, none⟩ = some (.bool false) := (blk_cell BK248.out 4).trans rfl
       have hfz22_0 := blk_frozen BK248.out 0
       have hfz22_1 := blk_frozen BK248.out 1
       have hfz22_2 := blk_frozen BK248.out 2
       have hfz22_3 := blk_frozen BK248.out 3
       have hfz22_4 := blk_frozen BK248.out 4
       go_wp2
       go_meet
       case rel => exact ⟨_, (y249), (3), H', ⟨by first | omega | exact Nat.le_refl _⟩, ⟨by (with_reducible repeat (first | apply Kd.V_alloc | apply Kd.V_drewN | apply Kd.V_drew)); exact Kd.V_mono (Kd.V_far (p := ⟨gb248, 0, none⟩) (Kd.V_mono HO253.out (fun k_ hk => (⟨hk, hk.2.2⟩ : _ ∧ k_ ≠ gb248))) (fun _ hk => hk.2) (.int .i64 3)) (fun _ hk => ⟨hk.1.1, ⟨hk.1.2.1, hk.1.2.2⟩⟩)⟩, ⟨by (with_reducible repeat (first | refine blk_drewN ?_ _ | refine blk_drew ?_ | refine blk_alloc ?_ _)); refine blk_far ?_ NB247_248.out _; (with_reducible repeat (first | refine blk_drewN ?_ _ | refine blk_drew ?_ | refine blk_alloc ?_ _)); exact BK247.out⟩, ⟨by (with_reducible repeat (first | refine blk_drewN ?_ _ | refine blk_drew ?_ | refine blk_alloc ?_ _)); refine blk_put (cs := #[.int .i64 (-1), .int .i64 0, .string (⟨#[]⟩ : ByteArray), .string (⟨#[]⟩ : ByteArray), .bool false]) ?_ 0 _ rfl; (with_reducible repeat (first | refine blk_drewN ?_ _ | refine blk_drew ?_ | refine blk_alloc ?_ _)); exact BK248.out⟩, ⟨by repeat (first | (with_reducible first | exact HB.out | apply below_alloc | apply pw_below_drewN | apply below_drew1 | refine below_set ?_ GE247.out | refine below_set ?_ GE248.out) | exact HB.out)⟩⟩
      ·rw [if_neg c20] at H
       have c20b0 : ((rdOf ByteArray.empty l0 0).toList == ([114, 97, 110, 103, 101] : List UInt8)) = false := beq_eq_false_iff_ne.mpr c20
       have c20b1 : ((rdOf ByteArray.empty l0 0).toList != ([114, 97, 110, 103, 101] : List UInt8)) = true := bne_iff_ne.mpr c20
       by_cases c23 : (rdOf ByteArray.empty l0 0).toList = ([99, 97, 108, 108] : List UInt8)
       ·rw [if_pos c23] at H
        have c23b0 : ((rdOf ByteArray.empty l0 0).toList == ([99, 97, 108, 108] : List UInt8)) = true := beq_iff_eq.mpr c23
        have c23b1 : ((rdOf ByteArray.empty l0 0).toList != ([99, 97, 108, 108] : List UInt8)) = false := bne_eq_false_iff_eq.mpr c23
        clear c23
        have H' := Aside0.mk H
        clear H
        have hnb24 := NB248_247.out
        have hnc24 := NB247_248.out
        have hcz25_0 : w15.cell? ⟨gb248, 0, none⟩ = some (.int .i64 (-1)) := (blk_cell BK248.out 0).trans rfl
        have hcz25_1 : w15.cell? ⟨gb248, 1, none⟩ = some (.int .i64 0) := (blk_cell BK248.out 1).trans rfl
        have hcz25_2 : w15.cell? ⟨gb248, 2, none⟩ = some (.string (⟨#[]⟩ : ByteArray)) := (blk_cell BK248.out 2).trans rfl
        have hcz25_3 : w15.cell? ⟨gb248, 3, none⟩ = some (.string (⟨#[]⟩ : ByteArray)) := (blk_cell BK248.out 3).trans rfl
        have hcz25_4 : w15.cell? ⟨gb248, 4, none⟩ = some (.bool false) := (blk_cell BK248.out 4).trans rfl
        have hfz25_0 := blk_frozen BK248.out 0
        have hfz25_1 := blk_frozen BK248.out 1
        have hfz25_2 := blk_frozen BK248.out 2
        have hfz25_3 := blk_frozen BK248.out 3
        have hfz25_4 := blk_frozen BK248.out 4
        go_wp2
        go_meet
        case rel => exact ⟨_, (y249), (4), H', ⟨by first | omega | exact Nat.le_refl _⟩, ⟨by (with_reducible repeat (first | apply Kd.V_alloc | apply Kd.V_drewN | apply Kd.V_drew)); exact Kd.V_mono (Kd.V_far (p := ⟨gb248, 0, none⟩) (Kd.V_mono HO253.out (fun k_ hk => (⟨hk, hk.2.2⟩ : _ ∧ k_ ≠ gb248))) (fun _ hk => hk.2) (.int .i64 4)) (fun _ hk => ⟨hk.1.1, ⟨hk.1.2.1, hk.1.2.2⟩⟩)⟩, ⟨by (with_reducible repeat (first | refine blk_drewN ?_ _ | refine blk_drew ?_ | refine blk_alloc ?_ _)); refine blk_far ?_ NB247_248.out _; (with_reducible repeat (first | refine blk_drewN ?_ _ | refine blk_drew ?_ | refine blk_alloc ?_ _)); exact BK247.out⟩, ⟨by (with_reducible repeat (first | refine blk_drewN ?_ _ | refine blk_drew ?_ | refine blk_alloc ?_ _)); refine blk_put (cs := #[.int .i64 (-1), .int .i64 0, .string (⟨#[]⟩ : ByteArray), .string (⟨#[]⟩ : ByteArray), .bool false]) ?_ 0 _ rfl; (with_reducible repeat (first | refine blk_drewN ?_ _ | refine blk_drew ?_ | refine blk_alloc ?_ _)); exact BK248.out⟩, ⟨by repeat (first | (with_reducible first | exact HB.out | apply below_alloc | apply pw_below_drewN | apply below_drew1 | refine below_set ?_ GE247.out | refine below_set ?_ GE248.out) | exact HB.out)⟩⟩
       ·rw [if_neg c23] at H
        have c23b0 : ((rdOf ByteArray.empty l0 0).toList == ([99, 97, 108, 108] : List UInt8)) = false := beq_eq_false_iff_ne.mpr c23
        have c23b1 : ((rdOf ByteArray.empty l0 0).toList != ([99, 97, 108, 108] : List UInt8)) = true := bne_iff_ne.mpr c23
        by_cases c26 : (rdOf ByteArray.empty l0 0).toList = ([102, 108, 117, 115, 104] : List UInt8)
        ·rw [if_pos c26] at H
         have c26b0 : ((rdOf ByteArray.empty l0 0).toList == ([102, 108, 117, 115, 104] : List UInt8)) = true := beq_iff_eq.mpr c26
         have c26b1 : ((rdOf ByteArray.empty l0 0).toList != ([102, 108, 117, 115, 104] : List UInt8)) = false := bne_eq_false_iff_eq.mpr c26
         clear c26
         have H' := Aside0.mk H
         clear H
         have hnb27 := NB248_247.out
         have hnc27 := NB247_248.out
         have hcz28_0 : w15.cell? ⟨gb248, 0, none⟩ = some (.int .i64 (-1)) := (blk_cell BK248.out 0).trans rfl
         have hcz28_1 : w15.cell? ⟨gb248, 1, none⟩ = some (.int .i64 0) := (blk_cell BK248.out 1).trans rfl
         have hcz28_2 : w15.cell? ⟨gb248, 2, none⟩ = some (.string (⟨#[]⟩ : ByteArray)) := (blk_cell BK248.out 2).trans rfl
         have hcz28_3 : w15.cell? ⟨gb248, 3, none⟩ = some (.string (⟨#[]⟩ : ByteArray)) := (blk_cell BK248.out 3).trans rfl
         have hcz28_4 : w15.cell? ⟨gb248, 4, none⟩ = some (.bool false) := (blk_cell BK248.out 4).trans rfl
         have hfz28_0 := blk_frozen BK248.out 0
         have hfz28_1 := blk_frozen BK248.out 1
         have hfz28_2 := blk_frozen BK248.out 2
         have hfz28_3 := blk_frozen BK248.out 3
         have hfz28_4 := blk_frozen BK248.out 4
         go_wp2
         go_meet
         case rel => exact ⟨_, (y249), (5), H', ⟨by first | omega | exact Nat.le_refl _⟩, ⟨by (with_reducible repeat (first | apply Kd.V_alloc | apply Kd.V_drewN | apply Kd.V_drew)); exact Kd.V_mono (Kd.V_far (p := ⟨gb248, 0, none⟩) (Kd.V_mono HO253.out (fun k_ hk => (⟨hk, hk.2.2⟩ : _ ∧ k_ ≠ gb248))) (fun _ hk => hk.2) (.int .i64 5)) (fun _ hk => ⟨hk.1.1, ⟨hk.1.2.1, hk.1.2.2⟩⟩)⟩, ⟨by (with_reducible repeat (first | refine blk_drewN ?_ _ | refine blk_drew ?_ | refine blk_alloc ?_ _)); refine blk_far ?_ NB247_248.out _; (with_reducible repeat (first | refine blk_drewN ?_ _ | refine blk_drew ?_ | refine blk_alloc ?_ _)); exact BK247.out⟩, ⟨by (with_reducible repeat (first | refine blk_drewN ?_ _ | refine blk_drew ?_ | refine blk_alloc ?_ _)); refine blk_put (cs := #[.int .i64 (-1), .int .i64 0, .string (⟨#[]⟩ : ByteArray), .string (⟨#[]⟩ : ByteArray), .bool false]) ?_ 0 _ rfl; (with_reducible repeat (first | refine blk_drewN ?_ _ | refine blk_drew ?_ | refine blk_alloc ?_ _)); exact BK248.out⟩, ⟨by repeat (first | (with_reducible first | exact HB.out | apply below_alloc | apply pw_below_drewN | apply below_drew1 | refine below_set ?_ GE247.out | refine below_set ?_ GE248.out) | exact HB.out)⟩⟩
        ·rw [if_neg c26] at H
         have c26b0 : ((rdOf ByteArray.empty l0 0).toList == ([102, 108, 117, 115, 104] : List UInt8)) = false := beq_eq_false_iff_ne.mpr c26
         have c26b1 : ((rdOf ByteArray.empty l0 0).toList != ([102, 108, 117, 115, 104] : List UInt8)) = true := bne_iff_ne.mpr c26
         by_cases c29 : (rdOf ByteArray.empty l0 0).toList = ([100, 101, 102, 105, 110, 101] : List UInt8)
         ·rw [if_pos c29] at H
          have c29b0 : ((rdOf ByteArray.empty l0 0).toList == ([100, 101, 102, 105, 110, 101] : List UInt8)) = true := beq_iff_eq.mpr c29
          have c29b1 : ((rdOf ByteArray.empty l0 0).toList != ([100, 101, 102, 105, 110, 101] : List UInt8)) = false := bne_eq_false_iff_eq.mpr c29
          clear c29
          have H' := Aside0.mk H
          clear H
          have hnb30 := NB248_247.out
          have hnc30 := NB247_248.out
          have hcz31_0 : w15.cell? ⟨gb248, 0, none⟩ = some (.int .i64 (-1)) := (blk_cell BK248.out 0).trans rfl
          have hcz31_1 : w15.cell? ⟨gb248, 1, none⟩ = some (.int .i64 0) := (blk_cell BK248.out 1).trans rfl
          have hcz31_2 : w15.cell? ⟨gb248, 2, none⟩ = some (.string (⟨#[]⟩ : ByteArray)) := (blk_cell BK248.out 2).trans rfl
          have hcz31_3 : w15.cell? ⟨gb248, 3, none⟩ = some (.string (⟨#[]⟩ : ByteArray)) := (blk_cell BK248.out 3).trans rfl
          have hcz31_4 : w15.cell? ⟨gb248, 4, none⟩ = some (.bool false) := (blk_cell BK248.out 4).trans rfl
          have hfz31_0 := blk_frozen BK248.out 0
          have hfz31_1 := blk_frozen BK248.out 1
          have hfz31_2 := blk_frozen BK248.out 2
          have hfz31_3 := blk_frozen BK248.out 3
          have hfz31_4 := blk_frozen BK248.out 4
          go_wp2
          go_meet
          case rel => exact ⟨_, (y249), (6), H', ⟨by first | omega | exact Nat.le_refl _⟩, ⟨by (with_reducible repeat (first | apply Kd.V_alloc | apply Kd.V_drewN | apply Kd.V_drew)); exact Kd.V_mono (Kd.V_far (p := ⟨gb248, 0, none⟩) (Kd.V_mono HO253.out (fun k_ hk => (⟨hk, hk.2.2⟩ : _ ∧ k_ ≠ gb248))) (fun _ hk => hk.2) (.int .i64 6)) (fun _ hk => ⟨hk.1.1, ⟨hk.1.2.1, hk.1.2.2⟩⟩)⟩, ⟨by (with_reducible repeat (first | refine blk_drewN ?_ _ | refine blk_drew ?_ | refine blk_alloc ?_ _)); refine blk_far ?_ NB247_248.out _; (with_reducible repeat (first | refine blk_drewN ?_ _ | refine blk_drew ?_ | refine blk_alloc ?_ _)); exact BK247.out⟩, ⟨by (with_reducible repeat (first | refine blk_drewN ?_ _ | refine blk_drew ?_ | refine blk_alloc ?_ _)); refine blk_put (cs := #[.int .i64 (-1), .int .i64 0, .string (⟨#[]⟩ : ByteArray), .string (⟨#[]⟩ : ByteArray), .bool false]) ?_ 0 _ rfl; (with_reducible repeat (first | refine blk_drewN ?_ _ | refine blk_drew ?_ | refine blk_alloc ?_ _)); exact BK248.out⟩, ⟨by repeat (first | (with_reducible first | exact HB.out | apply below_alloc | apply pw_below_drewN | apply below_drew1 | refine below_set ?_ GE247.out | refine below_set ?_ GE248.out) | exact HB.out)⟩⟩
         ·rw [if_neg c29] at H
          have c29b0 : ((rdOf ByteArray.empty l0 0).toList == ([100, 101, 102, 105, 110, 101] : List UInt8)) = false := beq_eq_false_iff_ne.mpr c29
          have c29b1 : ((rdOf ByteArray.empty l0 0).toList != ([100, 101, 102, 105, 110, 101] : List UInt8)) = true := bne_iff_ne.mpr c29
          by_cases c32 : (rdOf ByteArray.empty l0 0).toList = ([101, 108, 115, 101] : List UInt8)
          ·rw [if_pos c32] at H
           have c32b0 : ((rdOf ByteArray.empty l0 0).toList == ([101, 108, 115, 101] : List UInt8)) = true := beq_iff_eq.mpr c32
           have c32b1 : ((rdOf ByteArray.empty l0 0).toList != ([101, 108, 115, 101] : List UInt8)) = false := bne_eq_false_iff_eq.mpr c32
           clear c32
           have H' := Aside0.mk H
           clear H
           have hnb33 := NB248_247.out
           have hnc33 := NB247_248.out
           have hcz34_0 : w15.cell? ⟨gb248, 0, none⟩ = some (.int .i64 (-1)) := (blk_cell BK248.out 0).trans rfl
           have hcz34_1 : w15.cell? ⟨gb248, 1, none⟩ = some (.int .i64 0) := (blk_cell BK248.out 1).trans rfl
           have hcz34_2 : w15.cell? ⟨gb248, 2, none⟩ = some (.string (⟨#[]⟩ : ByteArray)) := (blk_cell BK248.out 2).trans rfl
           have hcz34_3 : w15.cell? ⟨gb248, 3, none⟩ = some (.string (⟨#[]⟩ : ByteArray)) := (blk_cell BK248.out 3).trans rfl
           have hcz34_4 : w15.cell? ⟨gb248, 4, none⟩ = some (.bool false) := (blk_cell BK248.out 4).trans rfl
           have hfz34_0 := blk_frozen BK248.out 0
           have hfz34_1 := blk_frozen BK248.out 1
           have hfz34_2 := blk_frozen BK248.out 2
           have hfz34_3 := blk_frozen BK248.out 3
           have hfz34_4 := blk_frozen BK248.out 4
           go_wp2
           go_meet
           case rel => exact ⟨_, (y249), (7), H', ⟨by first | omega | exact Nat.le_refl _⟩, ⟨by (with_reducible repeat (first | apply Kd.V_alloc | apply Kd.V_drewN | apply Kd.V_drew)); exact Kd.V_mono (Kd.V_far (p := ⟨gb248, 0, none⟩) (Kd.V_mono HO253.out (fun k_ hk => (⟨hk, hk.2.2⟩ : _ ∧ k_ ≠ gb248))) (fun _ hk => hk.2) (.int .i64 7)) (fun _ hk => ⟨hk.1.1, ⟨hk.1.2.1, hk.1.2.2⟩⟩)⟩, ⟨by (with_reducible repeat (first | refine blk_drewN ?_ _ | refine blk_drew ?_ | refine blk_alloc ?_ _)); refine blk_far ?_ NB247_248.out _; (with_reducible repeat (first | refine blk_drewN ?_ _ | refine blk_drew ?_ | refine blk_alloc ?_ _)); exact BK247.out⟩, ⟨by (with_reducible repeat (first | refine blk_drewN ?_ _ | refine blk_drew ?_ | refine blk_alloc ?_ _)); refine blk_put (cs := #[.int .i64 (-1), .int .i64 0, .string (⟨#[]⟩ : ByteArray), .string (⟨#[]⟩ : ByteArray), .bool false]) ?_ 0 _ rfl; (with_reducible repeat (first | refine blk_drewN ?_ _ | refine blk_drew ?_ | refine blk_alloc ?_ _)); exact BK248.out⟩, ⟨by repeat (first | (with_reducible first | exact HB.out | apply below_alloc | apply pw_below_drewN | apply below_drew1 | refine below_set ?_ GE247.out | refine below_set ?_ GE248.out) | exact HB.out)⟩⟩
          ·rw [if_neg c32] at H
           have c32b0 : ((rdOf ByteArray.empty l0 0).toList == ([101, 108, 115, 101] : List UInt8)) = false := beq_eq_false_iff_ne.mpr c32
           have c32b1 : ((rdOf ByteArray.empty l0 0).toList != ([101, 108, 115, 101] : List UInt8)) = true := bne_iff_ne.mpr c32
           by_cases c35 : (rdOf ByteArray.empty l0 0).toList = ([101, 110, 100] : List UInt8)
           ·rw [if_pos c35] at H
            have c35b0 : ((rdOf ByteArray.empty l0 0).toList == ([101, 110, 100] : List UInt8)) = true := beq_iff_eq.mpr c35
            have c35b1 : ((rdOf ByteArray.empty l0 0).toList != ([101, 110, 100] : List UInt8)) = false := bne_eq_false_iff_eq.mpr c35
            clear c35
            have H' := Aside0.mk H
            clear H
            have hnb36 := NB248_247.out
            have hnc36 := NB247_248.out
            have hcz37_0 : w15.cell? ⟨gb248, 0, none⟩ = some (.int .i64 (-1)) := (blk_cell BK248.out 0).trans rfl
            have hcz37_1 : w15.cell? ⟨gb248, 1, none⟩ = some (.int .i64 0) := (blk_cell BK248.out 1).trans rfl
            have hcz37_2 : w15.cell? ⟨gb248, 2, none⟩ = some (.string (⟨#[]⟩ : ByteArray)) := (blk_cell BK248.out 2).trans rfl
            have hcz37_3 : w15.cell? ⟨gb248, 3, none⟩ = some (.string (⟨#[]⟩ : ByteArray)) := (blk_cell BK248.out 3).trans rfl
            have hcz37_4 : w15.cell? ⟨gb248, 4, none⟩ = some (.bool false) := (blk_cell BK248.out 4).trans rfl
            have hfz37_0 := blk_frozen BK248.out 0
            have hfz37_1 := blk_frozen BK248.out 1
            have hfz37_2 := blk_frozen BK248.out 2
            have hfz37_3 := blk_frozen BK248.out 3
            have hfz37_4 := blk_frozen BK248.out 4
            go_wp2
            go_meet
            case rel => exact ⟨_, (y249), (8), H', ⟨by first | omega | exact Nat.le_refl _⟩, ⟨by (with_reducible repeat (first | apply Kd.V_alloc | apply Kd.V_drewN | apply Kd.V_drew)); exact Kd.V_mono (Kd.V_far (p := ⟨gb248, 0, none⟩) (Kd.V_mono HO253.out (fun k_ hk => (⟨hk, hk.2.2⟩ : _ ∧ k_ ≠ gb248))) (fun _ hk => hk.2) (.int .i64 8)) (fun _ hk => ⟨hk.1.1, ⟨hk.1.2.1, hk.1.2.2⟩⟩)⟩, ⟨by (with_reducible repeat (first | refine blk_drewN ?_ _ | refine blk_drew ?_ | refine blk_alloc ?_ _)); refine blk_far ?_ NB247_248.out _; (with_reducible repeat (first | refine blk_drewN ?_ _ | refine blk_drew ?_ | refine blk_alloc ?_ _)); exact BK247.out⟩, ⟨by (with_reducible repeat (first | refine blk_drewN ?_ _ | refine blk_drew ?_ | refine blk_alloc ?_ _)); refine blk_put (cs := #[.int .i64 (-1), .int .i64 0, .string (⟨#[]⟩ : ByteArray), .string (⟨#[]⟩ : ByteArray), .bool false]) ?_ 0 _ rfl; (with_reducible repeat (first | refine blk_drewN ?_ _ | refine blk_drew ?_ | refine blk_alloc ?_ _)); exact BK248.out⟩, ⟨by repeat (first | (with_reducible first | exact HB.out | apply below_alloc | apply pw_below_drewN | apply below_drew1 | refine below_set ?_ GE247.out | refine below_set ?_ GE248.out) | exact HB.out)⟩⟩
           ·rw [if_neg c35] at H
            have c35b0 : ((rdOf ByteArray.empty l0 0).toList == ([101, 110, 100] : List UInt8)) = false := beq_eq_false_iff_ne.mpr c35
            have c35b1 : ((rdOf ByteArray.empty l0 0).toList != ([101, 110, 100] : List UInt8)) = true := bne_iff_ne.mpr c35
            replace H := Option.bind_eq_some_iff.mp H
            obtain ⟨t256, A380, H⟩ := H
            replace H : (if t256 = true then (tmplpiperef11_form.j0 k l0 1 0 (⟨#[]⟩ : ByteArray) (⟨#[]⟩ : ByteArray) false) else (tmplpiperef11_form.j0 k y249 (-1) 0 (⟨#[]⟩ : ByteArray) (⟨#[]⟩ : ByteArray) false)) = some (r1, r2, r3, r4, r5, r6, r7) := H
            have A38 := Aside0.mk A380
            clear A380
            by_cases c39 : t256 = true
            ·subst c39
             have H1 : (tmplpiperef11_form.j0 k l0 1 0 (⟨#[]⟩ : ByteArray) (⟨#[]⟩ : ByteArray) false) = some (r1, r2, r3, r4, r5, r6, r7) := by rw [if_pos rfl] at H; exact H
             clear H
             have H := H1
             clear H1
             have H' := Aside0.mk H
             clear H
             have p255 : 0 ≤ (0 : Int) := (by omega)
             have q255 : 0 < (l0.length : Int) := of_decide_eq_true (by first | (with_reducible assumption) | assumption)
             obtain ⟨ad255, e255, hx255_0⟩ := Kd.at_string (Kd.V_reads' HO0.out).2.2 0 p255 q255
             obtain rfl : ad254 = ad255 := (by injection e255)
             have qi255 : (0 < l0.length) = True := eq_true (by omega)
             (try rw [show ((0 : Int)).toNat = 0 from rfl] at hx255_0)
             (try rw [Addr.add_zero'] at hx255_0)
             replace p255 := eq_true p255
             replace q255 := eq_true q255
             go_wp2_with (first | ((with_reducible refine gate_callee (f := 87) rfl ?_); refine goesL_ (some 23) rfl rfl Tryd.func87 (by kernel_rfl) rfl #[.string (rdOf ByteArray.empty l0 0)] rfl (by (try simp only [List.map_toArray, List.map_cons, List.map_nil]); first | done | rfl | (simp only [List.length_drop, List.length_take]; rfl)) ?_; (with_reducible refine (tmplpiperef11_path.calls (rdOf ByteArray.empty l0 0) true _ A38.out).mono ?_); rintro e w' ⟨rfl, ⟨nd, rfl⟩⟩; refine ⟨_, rfl, ?_⟩; (try (rw [drewN_self w15]; generalize hq_ : World.drewN w15 _ = w15; have n0_ : Aside0 (Kd.V Kd.string 9 w15 w.heap.size (fun k_ => (P0_ k_ ∨ w.heap.size ≤ k_) ∧ k_ ≠ gb247 ∧ k_ ≠ gb248) (.slice (some ad254) l0.length c0) l0) := ⟨by rw [← hq_]; exact (by (with_reducible repeat (first | apply Kd.V_alloc | apply Kd.V_drewN | apply Kd.V_drew)); exact HO0.out)⟩; have n1_ : Aside0 (Kd.V Kd.string 9 w15 w.heap.size (fun k_ => (P0_ k_ ∨ w.heap.size ≤ k_) ∧ k_ ≠ gb247 ∧ k_ ≠ gb248) (.slice A16 y249.length c16) y249) := ⟨by rw [← hq_]; exact (by (with_reducible repeat (first | apply Kd.V_alloc | apply Kd.V_drewN | apply Kd.V_drew)); exact HO253.out)⟩; have n2_ : Aside0 (w15.heap[gb247]? = some (.cells #[.int .i64 0, .int .i64 0, .string (⟨#[]⟩ : ByteArray), .string (⟨#[]⟩ : ByteArray), .bool false] 140 (0, 0))) := ⟨by rw [← hq_]; exact (by (with_reducible repeat (first | refine blk_drewN ?_ _ | refine blk_drew ?_ | refine blk_alloc ?_ _)); exact BK247.out)⟩; have n3_ : Aside0 (w15.heap[gb248]? = some (.cells #[.int .i64 (-1), .int .i64 0, .string (⟨#[]⟩ : ByteArray), .string (⟨#[]⟩ : ByteArray), .bool false] 140 (0, 0))) := ⟨by rw [← hq_]; exact (by (with_reducible repeat (first | refine blk_drewN ?_ _ | refine blk_drew ?_ | refine blk_alloc ?_ _)); exact BK248.out)⟩; have n4_ : Aside0 (Below w.heap.size w w15) := ⟨by rw [← hq_]; exact (by repeat (first | (with_reducible first | exact HB.out | apply below_alloc | apply pw_below_drewN | apply below_drew1 | refine below_set ?_ GE247.out | refine below_set ?_ GE248.out) | exact HB.out))⟩; clear HO0 HO253 BK247 BK248 HB hq_; have HO0 := n0_; have HO253 := n1_; have BK247 := n2_; have BK248 := n3_; have HB := n4_; clear n0_ n1_ n2_ n3_ n4_)); have hnb40 := NB248_247.out; have hnc40 := NB247_248.out; have hcz41_0 : w15.cell? ⟨gb248, 0, none⟩ = some (.int .i64 (-1)) := (blk_cell BK248.out 0).trans rfl; have hcz41_1 : w15.cell? ⟨gb248, 1, none⟩ = some (.int .i64 0) := (blk_cell BK248.out 1).trans rfl; have hcz41_2 : w15.cell? ⟨gb248, 2, none⟩ = some (.string (⟨#[]⟩ : ByteArray)) := (blk_cell BK248.out 2).trans rfl; have hcz41_3 : w15.cell? ⟨gb248, 3, none⟩ = some (.string (⟨#[]⟩ : ByteArray)) := (blk_cell BK248.out 3).trans rfl; have hcz41_4 : w15.cell? ⟨gb248, 4, none⟩ = some (.bool false) := (blk_cell BK248.out 4).trans rfl; have hfz41_0 := blk_frozen BK248.out 0; have hfz41_1 := blk_frozen BK248.out 1; have hfz41_2 := blk_frozen BK248.out 2; have hfz41_3 := blk_frozen BK248.out 3; have hfz41_4 := blk_frozen BK248.out 4))
             go_meet
             case rel => exact ⟨_, (l0), (1), H', ⟨by first | omega | exact Nat.le_refl _⟩, ⟨by (with_reducible repeat (first | apply Kd.V_alloc | apply Kd.V_drewN | apply Kd.V_drew)); exact Kd.V_mono (Kd.V_far (p := ⟨gb248, 0, none⟩) (Kd.V_mono HO0.out (fun k_ hk => (⟨hk, hk.2.2⟩ : _ ∧ k_ ≠ gb248))) (fun _ hk => hk.2) (.int .i64 1)) (fun _ hk => ⟨hk.1.1, ⟨hk.1.2.1, hk.1.2.2⟩⟩)⟩, ⟨by (with_reducible repeat (first | refine blk_drewN ?_ _ | refine blk_drew ?_ | refine blk_alloc ?_ _)); refine blk_far ?_ NB247_248.out _; (with_reducible repeat (first | refine blk_drewN ?_ _ | refine blk_drew ?_ | refine blk_alloc ?_ _)); exact BK247.out⟩, ⟨by (with_reducible repeat (first | refine blk_drewN ?_ _ | refine blk_drew ?_ | refine blk_alloc ?_ _)); refine blk_put (cs := #[.int .i64 (-1), .int .i64 0, .string (⟨#[]⟩ : ByteArray), .string (⟨#[]⟩ : ByteArray), .bool false]) ?_ 0 _ rfl; (with_reducible repeat (first | refine blk_drewN ?_ _ | refine blk_drew ?_ | refine blk_alloc ?_ _)); exact BK248.out⟩, ⟨by repeat (first | (with_reducible first | exact HB.out | apply below_alloc | apply pw_below_drewN | apply below_drew1 | refine below_set ?_ GE247.out | refine below_set ?_ GE248.out) | exact HB.out)⟩⟩
            ·replace c39 := Bool.eq_false_iff.mpr c39
             subst c39
             have H1 : (tmplpiperef11_form.j0 k y249 (-1) 0 (⟨#[]⟩ : ByteArray) (⟨#[]⟩ : ByteArray) false) = some (r1, r2, r3, r4, r5, r6, r7) := by rw [if_neg (show ¬ (false = true) by decide)] at H; exact H
             clear H
             have H := H1
             clear H1
             have H' := Aside0.mk H
             clear H
             have p255 : 0 ≤ (0 : Int) := (by omega)
             have q255 : 0 < (l0.length : Int) := of_decide_eq_true (by first | (with_reducible assumption) | assumption)
             obtain ⟨ad255, e255, hx255_0⟩ := Kd.at_string (Kd.V_reads' HO0.out).2.2 0 p255 q255
             obtain rfl : ad254 = ad255 := (by injection e255)
             have qi255 : (0 < l0.length) = True := eq_true (by omega)
             (try rw [show ((0 : Int)).toNat = 0 from rfl] at hx255_0)
             (try rw [Addr.add_zero'] at hx255_0)
             replace p255 := eq_true p255
             replace q255 := eq_true q255
             go_wp2_with (first | ((with_reducible refine gate_callee (f := 87) rfl ?_); refine goesL_ (some 23) rfl rfl Tryd.func87 (by kernel_rfl) rfl #[.string (rdOf ByteArray.empty l0 0)] rfl (by (try simp only [List.map_toArray, List.map_cons, List.map_nil]); first | done | rfl | (simp only [List.length_drop, List.length_take]; rfl)) ?_; (with_reducible refine (tmplpiperef11_path.calls (rdOf ByteArray.empty l0 0) false _ A38.out).mono ?_); rintro e w' ⟨rfl, ⟨nd, rfl⟩⟩; refine ⟨_, rfl, ?_⟩))
             go_meet
             case rel => exact ⟨_, (y249), ((-1)), H', ⟨by first | omega | exact Nat.le_refl _⟩, ⟨by (with_reducible repeat (first | apply Kd.V_alloc | apply Kd.V_drewN | apply Kd.V_drew)); exact HO253.out⟩, ⟨by (with_reducible repeat (first | refine blk_drewN ?_ _ | refine blk_drew ?_ | refine blk_alloc ?_ _)); exact BK247.out⟩, ⟨by (with_reducible repeat (first | refine blk_drewN ?_ _ | refine blk_drew ?_ | refine blk_alloc ?_ _)); exact BK248.out⟩, ⟨by repeat (first | (with_reducible first | exact HB.out | apply below_alloc | apply pw_below_drewN | apply below_drew1 | refine below_set ?_ GE247.out | refine below_set ?_ GE248.out) | exact HB.out)⟩⟩
    case rest =>
     clear HC10
     try clear c1
     try clear q1
     try clear c2
     try clear c2b0
     try clear c2b1
     try clear c2b2
     try clear p2
     try clear q2
     try clear hx2
     try clear qi2
     try clear c3
     try clear c4
     try clear c5
     try clear c6
     try clear c8
     try clear c8b0
     try clear c8b1
     try clear c9
     try clear c9b0
     try clear c9b1
     try clear c13
     try clear c16
     try clear q16
     try clear c17
     try clear c17b0
     try clear c17b1
     try clear c18
     try clear c20
     try clear c20b0
     try clear c20b1
     try clear c21
     try clear c23
     try clear c23b0
     try clear c23b1
     try clear c24
     try clear p25
     try clear q25
     try clear hx25
     try clear qi25
     try clear c26
     try clear c26b0
     try clear c26b1
     try clear c27
     try clear c29
     try clear c29b0
     try clear c29b1
     try clear c30
     try clear c32
     try clear c32b0
     try clear c32b1
     try clear c33
     try clear c35
     try clear c35b0
     try clear c35b1
     try clear c36
     try clear c39
     try clear c40
     try clear hcz14_0
     try clear hcz14_1
     try clear hcz14_2
     try clear hcz14_3
     try clear hcz14_4
     try clear hcz19_0
     try clear hcz19_1
     try clear hcz19_2
     try clear hcz19_3
     try clear hcz19_4
     try clear hcz22_0
     try clear hcz22_1
     try clear hcz22_2
     try clear hcz22_3
     try clear hcz22_4
     try clear hcz25_0
     try clear hcz25_1
     try clear hcz25_2
     try clear hcz25_3
     try clear hcz25_4
     try clear hcz28_0
     try clear hcz28_1
     try clear hcz28_2
     try clear hcz28_3
     try clear hcz28_4
     try clear hcz31_0
     try clear hcz31_1
     try clear hcz31_2
     try clear hcz31_3
     try clear hcz31_4
     try clear hcz34_0
     try clear hcz34_1
     try clear hcz34_2
     try clear hcz34_3
     try clear hcz34_4
     try clear hcz37_0
     try clear hcz37_1
     try clear hcz37_2
     try clear hcz37_3
     try clear hcz37_4
     try clear hcz41_0
     try clear hcz41_1
     try clear hcz41_2
     try clear hcz41_3
     try clear hcz41_4
     try clear hcz6_0
     try clear hcz6_1
     try clear hcz6_2
     try clear hcz6_3
     try clear hcz6_4
     try clear hcz7_0
     try clear hcz7_1
     try clear hcz7_2
     try clear hcz7_3
     try clear hcz7_4
     try clear hfz14_0
     try clear hfz14_1
     try clear hfz14_2
     try clear hfz14_3
     try clear hfz14_4
     try clear hfz19_0
     try clear hfz19_1
     try clear hfz19_2
     try clear hfz19_3
     try clear hfz19_4
     try clear hfz22_0
     try clear hfz22_1
     try clear hfz22_2
     try clear hfz22_3
     try clear hfz22_4
     try clear hfz25_0
     try clear hfz25_1
     try clear hfz25_2
     try clear hfz25_3
     try clear hfz25_4
     try clear hfz28_0
     try clear hfz28_1
     try clear hfz28_2
     try clear hfz28_3
     try clear hfz28_4
     try clear hfz31_0
     try clear hfz31_1
     try clear hfz31_2
     try clear hfz31_3
     try clear hfz31_4
     try clear hfz34_0
     try clear hfz34_1
     try clear hfz34_2
     try clear hfz34_3
     try clear hfz34_4
     try clear hfz37_0
     try clear hfz37_1
     try clear hfz37_2
     try clear hfz37_3
     try clear hfz37_4
     try clear hfz41_0
     try clear hfz41_1
     try clear hfz41_2
     try clear hfz41_3
     try clear hfz41_4
     try clear hfz6_0
     try clear hfz6_1
     try clear hfz6_2
     try clear hfz6_3
     try clear hfz6_4
     try clear hfz7_0
     try clear hfz7_1
     try clear hfz7_2
     try clear hfz7_3
     try clear hfz7_4
     try clear hx254_0
     try clear hx255_0
     try clear p254
     try clear p255
     try clear q16
     try clear q254
     try clear q255
     obtain ⟨kq, x6_9, x249000_9, HA, HJ9, HO_6, BK247, BK248, HB⟩ := hcut
     cases kq with
     | zero => exact absurd HA.out (by simp [tmplpiperef11_form.j0])
     | succ kj9 =>
      have H := HA.out
      clear HA
      simp only [tmplpiperef11_form.j0] at H
      have HC42 := Aside0.mk H
      clear H
      go_upto_region 24 with (fail)
      go_cut [54] (fun v54 wc => ∃ (kq : Nat) (x54_41 : Bool), v54 = .bool x54_41 ∧ Aside0 (tmplpiperef11_form.j1 kq x6_9 true x54_41 x249000_9 0 (⟨#[]⟩ : ByteArray) (⟨#[]⟩ : ByteArray) false = some (r1, r2, r3, r4, r5, r6, r7)) ∧ Aside0 (kq ≤ kj9) ∧ Aside0 (Kd.V Kd.string 9 wc w.heap.size (fun k_ => (P0_ k_ ∨ w.heap.size ≤ k_) ∧ k_ ≠ gb247 ∧ k_ ≠ gb248) u6 x6_9) ∧ Aside0 (wc.heap[gb247]? = some (.cells #[.int .i64 0, .int .i64 0, .string (⟨#[]⟩ : ByteArray), .string (⟨#[]⟩ : ByteArray), .bool false] 140 (0, 0))) ∧ Aside0 (wc.heap[gb248]? = some (.cells #[.int .i64 x249000_9, .int .i64 0, .string (⟨#[]⟩ : ByteArray), .string (⟨#[]⟩ : ByteArray), .bool false] 140 (0, 0))) ∧ Aside0 (Below w.heap.size w wc))
      case first =>
       have H := HC42.out
       clear HC42
       by_cases c43 : x249000_9 = 4
       ·rw [if_pos c43] at H
        have c43b0 : (x249000_9 == 4) = true := beq_iff_eq.mpr c43
        have c43b1 : (x249000_9 != 4) = false := bne_eq_false_iff_eq.mpr c43
        clear c43
        (first | rw [c43b0] | (simp only [i64_w, i32_w]; rw [c43b0]) | skip)
        have H' := Aside0.mk H
        clear H
        have hnb44 := NB248_247.out
        have hnc44 := NB247_248.out
        have hcz45_0 : wc.cell? ⟨gb248, 0, none⟩ = some (.int .i64 x249000_9) := (blk_cell BK248.out 0).trans rfl
        have hcz45_1 : wc.cell? ⟨gb248, 1, none⟩ = some (.int .i64 0) := (blk_cell BK248.out 1).trans rfl
        have hcz45_2 : wc.cell? ⟨gb248, 2, none⟩ = some (.string (⟨#[]⟩ : ByteArray)) := (blk_cell BK248.out 2).trans rfl
        have hcz45_3 : wc.cell? ⟨gb248, 3, none⟩ = some (.string (⟨#[]⟩ : ByteArray)) := (blk_cell BK248.out 3).trans rfl
        have hcz45_4 : wc.cell? ⟨gb248, 4, none⟩ = some (.bool false) := (blk_cell BK248.out 4).trans rfl
        have hfz45_0 := blk_frozen BK248.out 0
        have hfz45_1 := blk_frozen BK248.out 1
        have hfz45_2 := blk_frozen BK248.out 2
        have hfz45_3 := blk_frozen BK248.out 3
        have hfz45_4 := blk_frozen BK248.out 4
        go_wp2
        go_meet
        case rel => exact ⟨_, (true), (by first | rfl | (simp; done) | (simp [*]; done)), H', ⟨by have := HJ9.out; first | omega | exact Nat.le_refl _⟩, ⟨by (with_reducible repeat (first | apply Kd.V_alloc | apply Kd.V_drewN | apply Kd.V_drew)); exact HO_6.out⟩, ⟨by (with_reducible repeat (first | refine blk_drewN ?_ _ | refine blk_drew ?_ | refine blk_alloc ?_ _)); exact BK247.out⟩, ⟨by (with_reducible repeat (first | refine blk_drewN ?_ _ | refine blk_drew ?_ | refine blk_alloc ?_ _)); exact BK248.out⟩, ⟨by repeat (first | (with_reducible first | exact HB.out | apply below_alloc | apply pw_below_drewN | apply below_drew1 | refine below_set ?_ GE247.out | refine below_set ?_ GE248.out) | exact HB.out)⟩⟩
       ·rw [if_neg c43] at H
        have c43b0 : (x249000_9 == 4) = false := beq_eq_false_iff_ne.mpr c43
        have c43b1 : (x249000_9 != 4) = true := bne_iff_ne.mpr c43
        (first | rw [c43b0] | (simp only [i64_w, i32_w]; rw [c43b0]) | skip)
        have H' := Aside0.mk H
        clear H
        have hnb46 := NB248_247.out
        have hnc46 := NB247_248.out
        have hcz47_0 : wc.cell? ⟨gb248, 0, none⟩ = some (.int .i64 x249000_9) := (blk_cell BK248.out 0).trans rfl
        have hcz47_1 : wc.cell? ⟨gb248, 1, none⟩ = some (.int .i64 0) := (blk_cell BK248.out 1).trans rfl
        have hcz47_2 : wc.cell? ⟨gb248, 2, none⟩ = some (.string (⟨#[]⟩ : ByteArray)) := (blk_cell BK248.out 2).trans rfl
        have hcz47_3 : wc.cell? ⟨gb248, 3, none⟩ = some (.string (⟨#[]⟩ : ByteArray)) := (blk_cell BK248.out 3).trans rfl
        have hcz47_4 : wc.cell? ⟨gb248, 4, none⟩ = some (.bool false) := (blk_cell BK248.out 4).trans rfl
        have hfz47_0 := blk_frozen BK248.out 0
        have hfz47_1 := blk_frozen BK248.out 1
        have hfz47_2 := blk_frozen BK248.out 2
        have hfz47_3 := blk_frozen BK248.out 3
        have hfz47_4 := blk_frozen BK248.out 4
        go_wp2
        go_meet
        case rel => exact ⟨_, ((x249000_9 == 6)), (by first | rfl | (simp; done) | (simp [*]; done)), H', ⟨by have := HJ9.out; first | omega | exact Nat.le_refl _⟩, ⟨by (with_reducible repeat (first | apply Kd.V_alloc | apply Kd.V_drewN | apply Kd.V_drew)); exact HO_6.out⟩, ⟨by (with_reducible repeat (first | refine blk_drewN ?_ _ | refine blk_drew ?_ | refine blk_alloc ?_ _)); exact BK247.out⟩, ⟨by (with_reducible repeat (first | refine blk_drewN ?_ _ | refine blk_drew ?_ | refine blk_alloc ?_ _)); exact BK248.out⟩, ⟨by repeat (first | (with_reducible first | exact HB.out | apply below_alloc | apply pw_below_drewN | apply below_drew1 | refine below_set ?_ GE247.out | refine below_set ?_ GE248.out) | exact HB.out)⟩⟩
      case rest =>
       clear HC42
       try clear c1
       try clear q1
       try clear c2
       try clear c2b0
       try clear c2b1
       try clear c2b2
       try clear p2
       try clear q2
       try clear hx2
       try clear qi2
       try clear c3
       try clear c4
       try clear c5
       try clear c6
       try clear c8
       try clear c8b0
       try clear c8b1
       try clear c9
       try clear c9b0
       try clear c9b1
       try clear c13
       try clear c16
       try clear q16
       try clear c17
       try clear c17b0
       try clear c17b1
       try clear c18
       try clear c20
       try clear c20b0
       try clear c20b1
       try clear c21
       try clear c23
       try clear c23b0
       try clear c23b1
       try clear c24
       try clear p25
       try clear q25
       try clear hx25
       try clear qi25
       try clear c26
       try clear c26b0
       try clear c26b1
       try clear c27
       try clear c29
       try clear c29b0
       try clear c29b1
       try clear c30
       try clear c32
       try clear c32b0
       try clear c32b1
       try clear c33
       try clear c35
       try clear c35b0
       try clear c35b1
       try clear c36
       try clear c39
       try clear c40
       try clear c43
       try clear c43b0
       try clear c43b1
       try clear c44
       try clear c46
       try clear hcz14_0
       try clear hcz14_1
       try clear hcz14_2
       try clear hcz14_3
       try clear hcz14_4
       try clear hcz19_0
       try clear hcz19_1
       try clear hcz19_2
       try clear hcz19_3
       try clear hcz19_4
       try clear hcz22_0
       try clear hcz22_1
       try clear hcz22_2
       try clear hcz22_3
       try clear hcz22_4
       try clear hcz25_0
       try clear hcz25_1
       try clear hcz25_2
       try clear hcz25_3
       try clear hcz25_4
       try clear hcz28_0
       try clear hcz28_1
       try clear hcz28_2
       try clear hcz28_3
       try clear hcz28_4
       try clear hcz31_0
       try clear hcz31_1
       try clear hcz31_2
       try clear hcz31_3
       try clear hcz31_4
       try clear hcz34_0
       try clear hcz34_1
       try clear hcz34_2
       try clear hcz34_3
       try clear hcz34_4
       try clear hcz37_0
       try clear hcz37_1
       try clear hcz37_2
       try clear hcz37_3
       try clear hcz37_4
       try clear hcz41_0
       try clear hcz41_1
       try clear hcz41_2
       try clear hcz41_3
       try clear hcz41_4
       try clear hcz45_0
       try clear hcz45_1
       try clear hcz45_2
       try clear hcz45_3
       try clear hcz45_4
       try clear hcz47_0
       try clear hcz47_1
       try clear hcz47_2
       try clear hcz47_3
       try clear hcz47_4
       try clear hcz6_0
       try clear hcz6_1
       try clear hcz6_2
       try clear hcz6_3
       try clear hcz6_4
       try clear hcz7_0
       try clear hcz7_1
       try clear hcz7_2
       try clear hcz7_3
       try clear hcz7_4
       try clear hfz14_0
       try clear hfz14_1
       try clear hfz14_2
       try clear hfz14_3
       try clear hfz14_4
       try clear hfz19_0
       try clear hfz19_1
       try clear hfz19_2
       try clear hfz19_3
       try clear hfz19_4
       try clear hfz22_0
       try clear hfz22_1
       try clear hfz22_2
       try clear hfz22_3
       try clear hfz22_4
       try clear hfz25_0
       try clear hfz25_1
       try clear hfz25_2
       try clear hfz25_3
       try clear hfz25_4
       try clear hfz28_0
       try clear hfz28_1
       try clear hfz28_2
       try clear hfz28_3
       try clear hfz28_4
       try clear hfz31_0
       try clear hfz31_1
       try clear hfz31_2
       try clear hfz31_3
       try clear hfz31_4
       try clear hfz34_0
       try clear hfz34_1
       try clear hfz34_2
       try clear hfz34_3
       try clear hfz34_4
       try clear hfz37_0
       try clear hfz37_1
       try clear hfz37_2
       try clear hfz37_3
       try clear hfz37_4
       try clear hfz41_0
       try clear hfz41_1
       try clear hfz41_2
       try clear hfz41_3
       try clear hfz41_4
       try clear hfz45_0
       try clear hfz45_1
       try clear hfz45_2
       try clear hfz45_3
       try clear hfz45_4
       try clear hfz47_0
       try clear hfz47_1
       try clear hfz47_2
       try clear hfz47_3
       try clear hfz47_4
       try clear hfz6_0
       try clear hfz6_1
       try clear hfz6_2
       try clear hfz6_3
       try clear hfz6_4
       try clear hfz7_0
       try clear hfz7_1
       try clear hfz7_2
       try clear hfz7_3
       try clear hfz7_4
       try clear hx254_0
       try clear hx255_0
       try clear p2
       try clear p25
       try clear p254
       try clear p255
       try clear q1
       try clear q16
       try clear q2
       try clear q25
       try clear q254
       try clear q255
       obtain ⟨kq, x54_41, rfl, HA, HJ41, HO_6, BK247, BK248, HB⟩ := hcut
       cases kq with
       | zero => exact absurd HA.out (by simp [tmplpiperef11_form.j1])
       | succ kj41 =>
        have H := HA.out
        clear HA
        simp only [tmplpiperef11_form.j1] at H
        have HC48 := Aside0.mk H
        clear H
        go_upto_if 54 with (fail)
        go_cut [6, 7] (fun v6 v7 wc => ∃ (kq : Nat) (x6_47 : List ByteArray) (x7_47 : Bool) (x248000_47 : Int) (x248001_47 : Int) (x248002_47 : ByteArray) (x248003_47 : ByteArray) (x248004_47 : Bool) (x249002_47 : ByteArray), v7 = .bool x7_47 ∧ Aside0 (tmplpiperef11_form.j2 kq x6_47 x7_47 x249000_9 0 x249002_47 (⟨#[]⟩ : ByteArray) false = some (r1, r2, r3, r4, r5, r6, r7)) ∧ Aside0 (kq ≤ kj41) ∧ Aside0 (Kd.V Kd.string 9 wc w.heap.size (fun k_ => (P0_ k_ ∨ w.heap.size ≤ k_) ∧ k_ ≠ gb247 ∧ k_ ≠ gb248) v6 x6_47) ∧ Aside0 (wc.heap[gb247]? = some (.cells #[.int .i64 x248000_47, .int .i64 x248001_47, .string x248002_47, .string x248003_47, .bool x248004_47] 140 (0, 0))) ∧ Aside0 (wc.heap[gb248]? = some (.cells #[.int .i64 x249000_9, .int .i64 0, .string x249002_47, .string (⟨#[]⟩ : ByteArray), .bool false] 140 (0, 0))) ∧ Aside0 (Below w.heap.size w wc))
        case first =>
         have H := HC48.out
         clear HC48
         by_cases c49 : x54_41 = true
         ·subst c49
          have H1 : (if (x6_9.length : Int) = 0 then (some (x249000_9, 0, (⟨#[]⟩ : ByteArray), (⟨#[]⟩ : ByteArray), false, false, false)) else (if 0 < (x6_9.length : Int) then ((tmplpiperef11_path.f (rdOf ByteArray.empty x6_9 0)).bind fun t258 => (if t258 = true then (some (x249000_9, 0, (⟨#[]⟩ : ByteArray), (⟨#[]⟩ : ByteArray), false, false, false)) else ((tmplpiperef09_IsName.f kj41 (rdOf ByteArray.empty x6_9 0)).bind fun t260 => (if 1 ≤ (x6_9.length : Int) then (tmplpiperef11_form.j2 kj41 (x6_9.drop 1) t260 x249000_9 0 (rdOf ByteArray.empty x6_9 0) (⟨#[]⟩ : ByteArray) false) else (none))))) else (none))) = some (r1, r2, r3, r4, r5, r6, r7) := by rw [if_pos rfl] at H; exact H
          clear H
          have H := H1
          clear H1
          by_cases c50 : (x6_9.length : Int) = 0
          ·rw [if_pos c50] at H
           have c50b0 : ((x6_9.length : Int) == 0) = true := beq_iff_eq.mpr c50
           have c50b1 : ((x6_9.length : Int) != 0) = false := bne_eq_false_iff_eq.mpr c50
           clear c50
           (first | rw [c50b0] | (simp only [i64_w, i32_w]; rw [c50b0]) | skip)
           simp only [Option.some.injEq, Prod.mk.injEq] at H
           obtain ⟨rfl, rfl, rfl, rfl, rfl, rfl, rfl⟩ := H
           obtain ⟨Ao51, co51, eo51⟩ := Kd.V_slice HO_6.out
           subst eo51
           have hnb52 := NB248_247.out
           have hnc52 := NB247_248.out
           have hcz53_0 : wc.cell? ⟨gb248, 0, none⟩ = some (.int .i64 x249000_9) := (blk_cell BK248.out 0).trans rfl
           have hcz53_1 : wc.cell? ⟨gb248, 1, none⟩ = some (.int .i64 0) := (blk_cell BK248.out 1).trans rfl
           have hcz53_2 : wc.cell? ⟨gb248, 2, none⟩ = some (.string (⟨#[]⟩ : ByteArray)) := (blk_cell BK248.out 2).trans rfl
           have hcz53_3 : wc.cell? ⟨gb248, 3, none⟩ = some (.string (⟨#[]⟩ : ByteArray)) := (blk_cell BK248.out 3).trans rfl
           have hcz53_4 : wc.cell? ⟨gb248, 4, none⟩ = some (.bool false) := (blk_cell BK248.out 4).trans rfl
           have hfz53_0 := blk_frozen BK248.out 0
           have hfz53_1 := blk_frozen BK248.out 1
           have hfz53_2 := blk_frozen BK248.out 2
           have hfz53_3 := blk_frozen BK248.out 3
           have hfz53_4 := blk_frozen BK248.out 4
           have hcz54_0 : wc.cell? ⟨gb247, 0, none⟩ = some (.int .i64 0) := (blk_cell BK247.out 0).trans rfl
           have hcz54_1 : wc.cell? ⟨gb247, 1, none⟩ = some (.int .i64 0) := (blk_cell BK247.out 1).trans rfl
           have hcz54_2 : wc.cell? ⟨gb247, 2, none⟩ = some (.string (⟨#[]⟩ : ByteArray)) := (blk_cell BK247.out 2).trans rfl
           have hcz54_3 : wc.cell? ⟨gb247, 3, none⟩ = some (.string (⟨#[]⟩ : ByteArray)) := (blk_cell BK247.out 3).trans rfl
           have hcz54_4 : wc.cell? ⟨gb247, 4, none⟩ = some (.bool false) := (blk_cell BK247.out 4).trans rfl
           have hfz54_0 := blk_frozen BK247.out 0
           have hfz54_1 := blk_frozen BK247.out 1
           have hfz54_2 := blk_frozen BK247.out 2
           have hfz54_3 := blk_frozen BK247.out 3
           have hfz54_4 := blk_frozen BK247.out 4
           go_wp2
           refine bodyPost_ret (results_ctt rfl _ _ gb247 140 #[.int .i64 x249000_9, .int .i64 0, .string (⟨#[]⟩ : ByteArray), .string (⟨#[]⟩ : ByteArray), .bool false] (0, 0) _ rfl (by (with_reducible repeat (first | refine blk_drewN ?_ _ | refine blk_drew ?_ | refine blk_alloc ?_ _)); refine blk_put (cs := #[.int .i64 x249000_9, .int .i64 0, .string (⟨#[]⟩ : ByteArray), .string (⟨#[]⟩ : ByteArray), .bool false]) ?_ 4 _ rfl; (with_reducible repeat (first | refine blk_drewN ?_ _ | refine blk_drew ?_ | refine blk_alloc ?_ _)); refine blk_put (cs := #[.int .i64 x249000_9, .int .i64 0, .string (⟨#[]⟩ : ByteArray), .string (⟨#[]⟩ : ByteArray), .bool false]) ?_ 3 _ rfl; (with_reducible repeat (first | refine blk_drewN ?_ _ | refine blk_drew ?_ | refine blk_alloc ?_ _)); refine blk_put (cs := #[.int .i64 x249000_9, .int .i64 0, .string (⟨#[]⟩ : ByteArray), .string (⟨#[]⟩ : ByteArray), .bool false]) ?_ 2 _ rfl; (with_reducible repeat (first | refine blk_drewN ?_ _ | refine blk_drew ?_ | refine blk_alloc ?_ _)); refine blk_put (cs := #[.int .i64 x249000_9, .int .i64 0, .string (⟨#[]⟩ : ByteArray), .string (⟨#[]⟩ : ByteArray), .bool false]) ?_ 1 _ rfl; (with_reducible repeat (first | refine blk_drewN ?_ _ | refine blk_drew ?_ | refine blk_alloc ?_ _)); refine blk_put (cs := #[.int .i64 0, .int .i64 0, .string (⟨#[]⟩ : ByteArray), .string (⟨#[]⟩ : ByteArray), .bool false]) ?_ 0 _ rfl; (with_reducible repeat (first | refine blk_drewN ?_ _ | refine blk_drew ?_ | refine blk_alloc ?_ _)); exact BK247.out) Tryd.underlying140 rfl (by kernel_rfl)) rfl ?_
           exact ⟨by first | rfl | (simp [errW_none, errW_some] <;> rfl) | (simp [*, errW_none, errW_some] <;> rfl), by repeat (first | (with_reducible first | exact HB.out | apply below_alloc | apply pw_below_drewN | apply below_drew1 | refine below_set ?_ GE247.out | refine below_set ?_ GE248.out) | exact HB.out)⟩
          ·rw [if_neg c50] at H
           have c50b0 : ((x6_9.length : Int) == 0) = false := beq_eq_false_iff_ne.mpr c50
           have c50b1 : ((x6_9.length : Int) != 0) = true := bne_iff_ne.mpr c50
           have c50b2 : ¬ (x6_9 = []) := fun h_ => c50 (by rw [h_]; rfl)
           (first | rw [c50b0] | (simp only [i64_w, i32_w]; rw [c50b0]) | skip)
           by_cases c55 : 0 < (x6_9.length : Int)
           ·rw [if_pos c55] at H
            have c55b0 : decide (0 < (x6_9.length : Int)) = true := decide_eq_true c55
            have c55b1 : decide (0 < x6_9.length) = true := decide_eq_true (by omega)
            clear c55
            replace H := Option.bind_eq_some_iff.mp H
            obtain ⟨t258, A560, H⟩ := H
            replace H : (if t258 = true then (some (x249000_9, 0, (⟨#[]⟩ : ByteArray), (⟨#[]⟩ : ByteArray), false, false, false)) else ((tmplpiperef09_IsName.f kj41 (rdOf ByteArray.empty x6_9 0)).bind fun t260 => (if 1 ≤ (x6_9.length : Int) then (tmplpiperef11_form.j2 kj41 (x6_9.drop 1) t260 x249000_9 0 (rdOf ByteArray.empty x6_9 0) (⟨#[]⟩ : ByteArray) false) else (none)))) = some (r1, r2, r3, r4, r5, r6, r7) := H
            have A56 := Aside0.mk A560
            clear A560
            by_cases c57 : t258 = true
            ·subst c57
             have H1 : (some (x249000_9, 0, (⟨#[]⟩ : ByteArray), (⟨#[]⟩ : ByteArray), false, false, false)) = some (r1, r2, r3, r4, r5, r6, r7) := by rw [if_pos rfl] at H; exact H
             clear H
             have H := H1
             clear H1
             simp only [Option.some.injEq, Prod.mk.injEq] at H
             obtain ⟨rfl, rfl, rfl, rfl, rfl, rfl, rfl⟩ := H
             obtain ⟨Ao58, co58, eo58⟩ := Kd.V_slice HO_6.out
             subst eo58
             have p257 : 0 ≤ (0 : Int) := (by omega)
             have q257 : 0 < (x6_9.length : Int) := of_decide_eq_true (by first | (with_reducible assumption) | assumption)
             obtain ⟨ad257, e257, hx257_0⟩ := Kd.at_string (Kd.V_reads' HO_6.out).2.2 0 p257 q257
             cases e257
             have qi257 : (0 < x6_9.length) = True := eq_true (by omega)
             (try rw [show ((0 : Int)).toNat = 0 from rfl] at hx257_0)
             (try rw [Addr.add_zero'] at hx257_0)
             replace p257 := eq_true p257
             replace q257 := eq_true q257
             go_wp2_with (first | (go_at_call 87; (with_reducible refine (tmplpiperef11_path.calls (rdOf ByteArray.empty x6_9 0) true _ A56.out).mono ?_); rintro e w' ⟨rfl, ⟨nd, rfl⟩⟩; (try (rw [drewN_self wc]; generalize hq_ : World.drewN wc _ = wc; have n0_ : Aside0 (Kd.V Kd.string 9 wc w.heap.size (fun k_ => (P0_ k_ ∨ w.heap.size ≤ k_) ∧ k_ ≠ gb247 ∧ k_ ≠ gb248) (.slice (some ad257) x6_9.length co58) x6_9) := ⟨by rw [← hq_]; exact (by (with_reducible repeat (first | apply Kd.V_alloc | apply Kd.V_drewN | apply Kd.V_drew)); exact HO_6.out)⟩; have n1_ : Aside0 (wc.heap[gb247]? = some (.cells #[.int .i64 0, .int .i64 0, .string (⟨#[]⟩ : ByteArray), .string (⟨#[]⟩ : ByteArray), .bool false] 140 (0, 0))) := ⟨by rw [← hq_]; exact (by (with_reducible repeat (first | refine blk_drewN ?_ _ | refine blk_drew ?_ | refine blk_alloc ?_ _)); exact BK247.out)⟩; have n2_ : Aside0 (wc.heap[gb248]? = some (.cells #[.int .i64 x249000_9, .int .i64 0, .string (⟨#[]⟩ : ByteArray), .string (⟨#[]⟩ : ByteArray), .bool false] 140 (0, 0))) := ⟨by rw [← hq_]; exact (by (with_reducible repeat (first | refine blk_drewN ?_ _ | refine blk_drew ?_ | refine blk_alloc ?_ _)); exact BK248.out)⟩; have n3_ : Aside0 (Below w.heap.size w wc) := ⟨by rw [← hq_]; exact (by repeat (first | (with_reducible first | exact HB.out | apply below_alloc | apply pw_below_drewN | apply below_drew1 | refine below_set ?_ GE247.out | refine below_set ?_ GE248.out) | exact HB.out))⟩; clear HO_6 BK247 BK248 HB hq_; have HO_6 := n0_; have BK247 := n1_; have BK248 := n2_; have HB := n3_; clear n0_ n1_ n2_ n3_)); have hnb59 := NB248_247.out; have hnc59 := NB247_248.out; have hcz60_0 : wc.cell? ⟨gb248, 0, none⟩ = some (.int .i64 x249000_9) := (blk_cell BK248.out 0).trans rfl; have hcz60_1 : wc.cell? ⟨gb248, 1, none⟩ = some (.int .i64 0) := (blk_cell BK248.out 1).trans rfl; have hcz60_2 : wc.cell? ⟨gb248, 2, none⟩ = some (.string (⟨#[]⟩ : ByteArray)) := (blk_cell BK248.out 2).trans rfl; have hcz60_3 : wc.cell? ⟨gb248, 3, none⟩ = some (.string (⟨#[]⟩ : ByteArray)) := (blk_cell BK248.out 3).trans rfl; have hcz60_4 : wc.cell? ⟨gb248, 4, none⟩ = some (.bool false) := (blk_cell BK248.out 4).trans rfl; have hfz60_0 := blk_frozen BK248.out 0; have hfz60_1 := blk_frozen BK248.out 1; have hfz60_2 := blk_frozen BK248.out 2; have hfz60_3 := blk_frozen BK248.out 3; have hfz60_4 := blk_frozen BK248.out 4; have hcz61_0 : wc.cell? ⟨gb247, 0, none⟩ = some (.int .i64 0) := (blk_cell BK247.out 0).trans rfl; have hcz61_1 : wc.cell? ⟨gb247, 1, none⟩ = some (.int .i64 0) := (blk_cell BK247.out 1).trans rfl; have hcz61_2 : wc.cell? ⟨gb247, 2, none⟩ = some (.string (⟨#[]⟩ : ByteArray)) := (blk_cell BK247.out 2).trans rfl; have hcz61_3 : wc.cell? ⟨gb247, 3, none⟩ = some (.string (⟨#[]⟩ : ByteArray)) := (blk_cell BK247.out 3).trans rfl; have hcz61_4 : wc.cell? ⟨gb247, 4, none⟩ = some (.bool false) := (blk_cell BK247.out 4).trans rfl; have hfz61_0 := blk_frozen BK247.out 0; have hfz61_1 := blk_frozen BK247.out 1; have hfz61_2 := blk_frozen BK247.out 2; have hfz61_3 := blk_frozen BK247.out 3; have hfz61_4 := blk_frozen BK247.out 4))
             refine bodyPost_ret (results_ctt rfl _ _ gb247 140 #[.int .i64 x249000_9, .int .i64 0, .string (⟨#[]⟩ : ByteArray), .string (⟨#[]⟩ : ByteArray), .bool false] (0, 0) _ rfl (by (with_reducible repeat (first | refine blk_drewN ?_ _ | refine blk_drew ?_ | refine blk_alloc ?_ _)); refine blk_put (cs := #[.int .i64 x249000_9, .int .i64 0, .string (⟨#[]⟩ : ByteArray), .string (⟨#[]⟩ : ByteArray), .bool false]) ?_ 4 _ rfl; (with_reducible repeat (first | refine blk_drewN ?_ _ | refine blk_drew ?_ | refine blk_alloc ?_ _)); refine blk_put (cs := #[.int .i64 x249000_9, .int .i64 0, .string (⟨#[]⟩ : ByteArray), .string (⟨#[]⟩ : ByteArray), .bool false]) ?_ 3 _ rfl; (with_reducible repeat (first | refine blk_drewN ?_ _ | refine blk_drew ?_ | refine blk_alloc ?_ _)); refine blk_put (cs := #[.int .i64 x249000_9, .int .i64 0, .string (⟨#[]⟩ : ByteArray), .string (⟨#[]⟩ : ByteArray), .bool false]) ?_ 2 _ rfl; (with_reducible repeat (first | refine blk_drewN ?_ _ | refine blk_drew ?_ | refine blk_alloc ?_ _)); refine blk_put (cs := #[.int .i64 x249000_9, .int .i64 0, .string (⟨#[]⟩ : ByteArray), .string (⟨#[]⟩ : ByteArray), .bool false]) ?_ 1 _ rfl; (with_reducible repeat (first | refine blk_drewN ?_ _ | refine blk_drew ?_ | refine blk_alloc ?_ _)); refine blk_put (cs := #[.int .i64 0, .int .i64 0, .string (⟨#[]⟩ : ByteArray), .string (⟨#[]⟩ : ByteArray), .bool false]) ?_ 0 _ rfl; (with_reducible repeat (first | refine blk_drewN ?_ _ | refine blk_drew ?_ | refine blk_alloc ?_ _)); exact BK247.out) Tryd.underlying140 rfl (by kernel_rfl)) rfl ?_
             exact ⟨by first | rfl | (simp [errW_none, errW_some] <;> rfl) | (simp [*, errW_none, errW_some] <;> rfl), by repeat (first | (with_reducible first | exact HB.out | apply below_alloc | apply pw_below_drewN | apply below_drew1 | refine below_set ?_ GE247.out | refine below_set ?_ GE248.out) | exact HB.out)⟩
            ·replace c57 := Bool.eq_false_iff.mpr c57
             subst c57
             have H1 : ((tmplpiperef09_IsName.f kj41 (rdOf ByteArray.empty x6_9 0)).bind fun t260 => (if 1 ≤ (x6_9.length : Int) then (tmplpiperef11_form.j2 kj41 (x6_9.drop 1) t260 x249000_9 0 (rdOf ByteArray.empty x6_9 0) (⟨#[]⟩ : ByteArray) false) else (none))) = some (r1, r2, r3, r4, r5, r6, r7) := by rw [if_neg (show ¬ (false = true) by decide)] at H; exact H
             clear H
             have H := H1
             clear H1
             replace H := Option.bind_eq_some_iff.mp H
             obtain ⟨t260, A620, H⟩ := H
             replace H : (if 1 ≤ (x6_9.length : Int) then (tmplpiperef11_form.j2 kj41 (x6_9.drop 1) t260 x249000_9 0 (rdOf ByteArray.empty x6_9 0) (⟨#[]⟩ : ByteArray) false) else (none)) = some (r1, r2, r3, r4, r5, r6, r7) := H
             have A62 := Aside0.mk A620
             clear A620
             by_cases c63 : 1 ≤ (x6_9.length : Int)
             ·rw [if_pos c63] at H
              have c63b0 := eq_true c63
              have c63b1 : decide (1 ≤ (x6_9.length : Int)) = true := decide_eq_true c63
              clear c63
              obtain ⟨y261, hy261⟩ : ∃ y_ : List ByteArray, y_ = (x6_9.drop 1) := ⟨_, rfl⟩
              replace H : (tmplpiperef11_form.j2 kj41 y261 t260 x249000_9 0 (rdOf ByteArray.empty x6_9 0) (⟨#[]⟩ : ByteArray) false) = some (r1, r2, r3, r4, r5, r6, r7) := by first | (rw [hy261]; with_reducible exact H) | (have H2_ := (Option.bind_some _ _).symm.trans H; rw [hy261]; with_reducible exact H2_) | (have H2_ := (Option.bind_some _ _).symm.trans H; with_reducible exact H2_) | with_reducible exact H | (rw [hy261]; exact H) | exact H
              have Ny261 := Aside0.mk hy261
              clear hy261
              have H' := Aside0.mk H
              clear H
              obtain ⟨Ao64, co64, eo64⟩ := Kd.V_slice HO_6.out
              subst eo64
              have p257 : 0 ≤ (0 : Int) := (by omega)
              have q257 : 0 < (x6_9.length : Int) := of_decide_eq_true (by first | (with_reducible assumption) | assumption)
              obtain ⟨ad257, e257, hx257_0⟩ := Kd.at_string (Kd.V_reads' HO_6.out).2.2 0 p257 q257
              cases e257
              have qi257 : (0 < x6_9.length) = True := eq_true (by omega)
              (try rw [show ((0 : Int)).toNat = 0 from rfl] at hx257_0)
              (try rw [Addr.add_zero'] at hx257_0)
              replace p257 := eq_true p257
              replace q257 := eq_true q257
              go_wp2_with (first | (go_at_call 87; (with_reducible refine (tmplpiperef11_path.calls (rdOf ByteArray.empty x6_9 0) false _ A56.out).mono ?_); rintro e w' ⟨rfl, ⟨nd, rfl⟩⟩; (try (rw [drewN_self wc]; generalize hq_ : World.drewN wc _ = wc; have n0_ : Aside0 (Kd.V Kd.string 9 wc w.heap.size (fun k_ => (P0_ k_ ∨ w.heap.size ≤ k_) ∧ k_ ≠ gb247 ∧ k_ ≠ gb248) (.slice (some ad257) x6_9.length co64) x6_9) := ⟨by rw [← hq_]; exact (by (with_reducible repeat (first | apply Kd.V_alloc | apply Kd.V_drewN | apply Kd.V_drew)); exact HO_6.out)⟩; have n1_ : Aside0 (wc.heap[gb247]? = some (.cells #[.int .i64 0, .int .i64 0, .string (⟨#[]⟩ : ByteArray), .string (⟨#[]⟩ : ByteArray), .bool false] 140 (0, 0))) := ⟨by rw [← hq_]; exact (by (with_reducible repeat (first | refine blk_drewN ?_ _ | refine blk_drew ?_ | refine blk_alloc ?_ _)); exact BK247.out)⟩; have n2_ : Aside0 (wc.heap[gb248]? = some (.cells #[.int .i64 x249000_9, .int .i64 0, .string (⟨#[]⟩ : ByteArray), .string (⟨#[]⟩ : ByteArray), .bool false] 140 (0, 0))) := ⟨by rw [← hq_]; exact (by (with_reducible repeat (first | refine blk_drewN ?_ _ | refine blk_drew ?_ | refine blk_alloc ?_ _)); exact BK248.out)⟩; have n3_ : Aside0 (Below w.heap.size w wc) := ⟨by rw [← hq_]; exact (by repeat (first | (with_reducible first | exact HB.out | apply below_alloc | apply pw_below_drewN | apply below_drew1 | refine below_set ?_ GE247.out | refine below_set ?_ GE248.out) | exact HB.out))⟩; clear HO_6 BK247 BK248 HB hq_; have HO_6 := n0_; have BK247 := n1_; have BK248 := n2_; have HB := n3_; clear n0_ n1_ n2_ n3_)); have p259 : 0 ≤ (0 : Int) := (by omega); have q259 : 0 < (x6_9.length : Int) := of_decide_eq_true (by first | (with_reducible assumption) | assumption); obtain ⟨ad259, e259, hx259_0⟩ := Kd.at_string (Kd.V_reads' HO_6.out).2.2 0 p259 q259; obtain rfl : ad257 = ad259 := (by injection e259); have qi259 : (0 < x6_9.length) = True := eq_true (by omega); (try rw [show ((0 : Int)).toNat = 0 from rfl] at hx259_0); (try rw [Addr.add_zero'] at hx259_0); replace p259 := eq_true p259; replace q259 := eq_true q259; have hnb65 := NB248_247.out; have hnc65 := NB247_248.out; have hcz66_0 : wc.cell? ⟨gb248, 0, none⟩ = some (.int .i64 x249000_9) := (blk_cell BK248.out 0).trans rfl; have hcz66_1 : wc.cell? ⟨gb248, 1, none⟩ = some (.int .i64 0) := (blk_cell BK248.out 1).trans rfl; have hcz66_2 : wc.cell? ⟨gb248, 2, none⟩ = some (.string (⟨#[]⟩ : ByteArray)) := (blk_cell BK248.out 2).trans rfl; have hcz66_3 : wc.cell? ⟨gb248, 3, none⟩ = some (.string (⟨#[]⟩ : ByteArray)) := (blk_cell BK248.out 3).trans rfl; have hcz66_4 : wc.cell? ⟨gb248, 4, none⟩ = some (.bool false) := (blk_cell BK248.out 4).trans rfl; have hfz66_0 := blk_frozen BK248.out 0; have hfz66_1 := blk_frozen BK248.out 1; have hfz66_2 := blk_frozen BK248.out 2; have hfz66_3 := blk_frozen BK248.out 3; have hfz66_4 := blk_frozen BK248.out 4) | ((with_reducible refine gate_store (t := 9) (p := 68) rfl ?_); refine store_event (t := 9) (p := 68) (v := ?vo_w67) (w1 := (wc.setCell ⟨gb248, 2, none⟩ (.string (rdOf ByteArray.empty x6_9 0)))) ?hg ?ho ?hn ?hr ?_; (case ho => rfl); (case hg => rfl); (case hn => rfl); (case hr => first | (go_simp; done) | (go_simp; rfl)); intro w67 hw; have n0_ : Aside0 (Kd.V Kd.string 9 w67 w.heap.size (fun k_ => (P0_ k_ ∨ w.heap.size ≤ k_) ∧ k_ ≠ gb247 ∧ k_ ≠ gb248) (.slice (some ad257) x6_9.length co64) x6_9) := ⟨(by rw [hw]; exact (by (with_reducible repeat (first | apply Kd.V_alloc | apply Kd.V_drewN | apply Kd.V_drew)); exact Kd.V_mono (Kd.V_far (p := ⟨gb248, 2, none⟩) (Kd.V_mono HO_6.out (fun k_ hk => (⟨hk, hk.2.2⟩ : _ ∧ k_ ≠ gb248))) (fun _ hk => hk.2) (.string (rdOf ByteArray.empty x6_9 0))) (fun _ hk => ⟨hk.1.1, ⟨hk.1.2.1, hk.1.2.2⟩⟩)))⟩; have n1_ : Aside0 (w67.heap[gb247]? = some (.cells #[.int .i64 0, .int .i64 0, .string (⟨#[]⟩ : ByteArray), .string (⟨#[]⟩ : ByteArray), .bool false] 140 (0, 0))) := ⟨(by rw [hw]; exact (by (with_reducible repeat (first | refine blk_drewN ?_ _ | refine blk_drew ?_ | refine blk_alloc ?_ _)); refine blk_far ?_ NB247_248.out _; (with_reducible repeat (first | refine blk_drewN ?_ _ | refine blk_drew ?_ | refine blk_alloc ?_ _)); exact BK247.out))⟩; have n2_ : Aside0 (w67.heap[gb248]? = some (.cells #[.int .i64 x249000_9, .int .i64 0, .string (rdOf ByteArray.empty x6_9 0), .string (⟨#[]⟩ : ByteArray), .bool false] 140 (0, 0))) := ⟨(by rw [hw]; exact (by (with_reducible repeat (first | refine blk_drewN ?_ _ | refine blk_drew ?_ | refine blk_alloc ?_ _)); refine blk_put (cs := #[.int .i64 x249000_9, .int .i64 0, .string (⟨#[]⟩ : ByteArray), .string (⟨#[]⟩ : ByteArray), .bool false]) ?_ 2 _ rfl; (with_reducible repeat (first | refine blk_drewN ?_ _ | refine blk_drew ?_ | refine blk_alloc ?_ _)); exact BK248.out))⟩; have n3_ : Aside0 (Below w.heap.size w w67) := ⟨(by rw [hw]; exact (by repeat (first | (with_reducible first | exact HB.out | apply below_alloc | apply pw_below_drewN | apply below_drew1 | refine below_set ?_ GE247.out | refine below_set ?_ GE248.out) | exact HB.out)))⟩; clear hw; clear HO_6; clear BK247; clear BK248; clear HB; have HO_6 := n0_; have BK247 := n1_; have BK248 := n2_; have HB := n3_; clear n0_ n1_ n2_ n3_; have hcz68_0 : w67.cell? ⟨gb248, 0, none⟩ = some (.int .i64 x249000_9) := (blk_cell BK248.out 0).trans rfl; have hcz68_1 : w67.cell? ⟨gb248, 1, none⟩ = some (.int .i64 0) := (blk_cell BK248.out 1).trans rfl; have hcz68_2 : w67.cell? ⟨gb248, 2, none⟩ = some (.string (rdOf ByteArray.empty x6_9 0)) := (blk_cell BK248.out 2).trans rfl; have hcz68_3 : w67.cell? ⟨gb248, 3, none⟩ = some (.string (⟨#[]⟩ : ByteArray)) := (blk_cell BK248.out 3).trans rfl; have hcz68_4 : w67.cell? ⟨gb248, 4, none⟩ = some (.bool false) := (blk_cell BK248.out 4).trans rfl; have hfz68_0 := blk_frozen BK248.out 0; have hfz68_1 := blk_frozen BK248.out 1; have hfz68_2 := blk_frozen BK248.out 2; have hfz68_3 := blk_frozen BK248.out 3; have hfz68_4 := blk_frozen BK248.out 4) | ((with_reducible refine gate_callee (f := 86) rfl ?_); refine goesL_ (some 71) rfl rfl Tryd.func86 (by kernel_rfl) rfl #[.string (rdOf ByteArray.empty x6_9 0)] rfl (by (try simp only [List.map_toArray, List.map_cons, List.map_nil]); first | done | rfl | (simp only [List.length_drop, List.length_take]; rfl)) ?_; (with_reducible refine (tmplpiperef09_IsName.calls kj41 (rdOf ByteArray.empty x6_9 0) t260 _ A62.out).mono ?_); rintro e w' ⟨rfl, ⟨nd, rfl⟩⟩; refine ⟨_, rfl, ?_⟩; have q69 : (1 : Int) ≤ ((x6_9.length : Int) : Int) := of_decide_eq_true (by first | (with_reducible assumption) | assumption); obtain ⟨i069, hi069, _, hsz69, _⟩ := info_parts info9; have hroom69 : x6_9.length ≤ co64 := (Kd.V_reads' HO_6.out).2.1; have hC69 : Kd.F Kd.string _ _ (some ad257) x6_9.length x6_9 := (Kd.V_at (base := w.heap.size) HO_6.out).2.2; have hcut69 := cut_from (P := Tryd.prog) 114 9 .i64 Tryd.underlying114 hi069 1 hsz69 (some ad257) x6_9.length co64 1 (by omega) q69; have hr69 := Kd.F_cut (m := (1 : Int).toNat) (c := co64) hC69 (by omega) hroom69; obtain ⟨A69, hA69⟩ : ∃ A1, A1 = (if co64 = (1 : Int).toNat then (some ad257) else ((some ad257) : Option Addr).map (·.add ((1 : Int).toNat * 1))) := ⟨_, rfl⟩; obtain ⟨c69, hc69⟩ : ∃ c1, c1 = co64 - (1 : Int).toNat := ⟨_, rfl⟩; have hy69 : y261.length = x6_9.length - (1 : Int).toNat := (by rw [Ny261.out, List.length_drop] <;> omega); rw [show (x6_9).drop (1 : Int).toNat = y261 from Ny261.out.symm] at hr69; replace hr69 : Kd.F Kd.string _ _ A69 y261.length y261 := (by rw [hA69]; exact hr69); rw [← hy69, ← hA69, ← hc69] at hcut69; have HO265 := Aside0.mk (show Kd.V Kd.string 9 _ w.heap.size _ (.slice A69 y261.length c69) y261 from Kd.V_mk (by rw [hy69, hc69]; exact Nat.sub_le_sub_right hroom69 _) hr69); have HC265 := Aside0.mk (show y261.length ≤ c69 from by rw [hy69, hc69]; exact Nat.sub_le_sub_right hroom69 _); clear hr69 hC69 hroom69 hi069 hsz69 hc69; have KY69 := Aside0.mk hy69; have KA69 := Aside0.mk hA69; clear hy69 hA69; replace q69 := eq_true q69))
              go_meet
              case rel => exact ⟨_, (y261), (t260), (0), (0), ((⟨#[]⟩ : ByteArray)), ((⟨#[]⟩ : ByteArray)), (false), (rdOf ByteArray.empty x6_9 0), (by first | rfl | (simp; done) | (simp [*]; done)), H', ⟨by have := HJ9.out; have := HJ41.out; first | omega | exact Nat.le_refl _⟩, ⟨by (with_reducible repeat (first | apply Kd.V_alloc | apply Kd.V_drewN | apply Kd.V_drew)); exact HO265.out⟩, ⟨by (with_reducible repeat (first | refine blk_drewN ?_ _ | refine blk_drew ?_ | refine blk_alloc ?_ _)); exact BK247.out⟩, ⟨by (with_reducible repeat (first | refine blk_drewN ?_ _ | refine blk_drew ?_ | refine blk_alloc ?_ _)); exact BK248.out⟩, ⟨by repeat (first | (with_reducible first | exact HB.out | apply below_alloc | apply pw_below_drewN | apply below_drew1 | refine below_set ?_ GE247.out | refine below_set ?_ GE248.out) | exact HB.out)⟩⟩
             ·rw [if_neg c63] at H
              exact absurd H (by simp)
           ·rw [if_neg c55] at H
            exact absurd H (by simp)
         ·replace c49 := Bool.eq_false_iff.mpr c49
          subst c49
          have H1 : (tmplpiperef11_form.j2 kj41 x6_9 true x249000_9 0 (⟨#[]⟩ : ByteArray) (⟨#[]⟩ : ByteArray) false) = some (r1, r2, r3, r4, r5, r6, r7) := by rw [if_neg (show ¬ (false = true) by decide)] at H; exact H
          clear H
          have H := H1
          clear H1
          have H' := Aside0.mk H
          clear H
          go_wp2
          go_meet
          case rel => exact ⟨_, (x6_9), (true), (0), (0), ((⟨#[]⟩ : ByteArray)), ((⟨#[]⟩ : ByteArray)), (false), ((⟨#[]⟩ : ByteArray)), (by first | rfl | (simp; done) | (simp [*]; done)), H', ⟨by have := HJ9.out; have := HJ41.out; first | omega | exact Nat.le_refl _⟩, ⟨by (with_reducible repeat (first | apply Kd.V_alloc | apply Kd.V_drewN | apply Kd.V_drew)); exact HO_6.out⟩, ⟨by (with_reducible repeat (first | refine blk_drewN ?_ _ | refine blk_drew ?_ | refine blk_alloc ?_ _)); exact BK247.out⟩, ⟨by (with_reducible repeat (first | refine blk_drewN ?_ _ | refine blk_drew ?_ | refine blk_alloc ?_ _)); exact BK248.out⟩, ⟨by repeat (first | (with_reducible first | exact HB.out | apply below_alloc | apply pw_below_drewN | apply below_drew1 | refine below_set ?_ GE247.out | refine below_set ?_ GE248.out) | exact HB.out)⟩⟩
        case rest =>
         clear HC48
         try clear c1
         try clear q1
         try clear c2
         try clear c2b0
         try clear c2b1
         try clear c2b2
         try clear p2
         try clear q2
         try clear hx2
         try clear qi2
         try clear c3
         try clear c4
         try clear c5
         try clear c6
         try clear q6
         try clear c8
         try clear c8b0
         try clear c8b1
         try clear c9
         try clear c9b0
         try clear c9b1
         try clear c13
         try clear c16
         try clear q16
         try clear c17
         try clear c17b0
         try clear c17b1
         try clear c18
         try clear c20
         try clear c20b0
         try clear c20b1
         try clear c21
         try clear c23
         try clear c23b0
         try clear c23b1
         try clear c24
         try clear p25
         try clear q25
         try clear hx25
         try clear qi25
         try clear c26
         try clear c26b0
         try clear c26b1
         try clear c27
         try clear c29
         try clear c29b0
         try clear c29b1
         try clear c30
         try clear c32
         try clear c32b0
         try clear c32b1
         try clear c33
         try clear c35
         try clear c35b0
         try clear c35b1
         try clear c36
         try clear c39
         try clear c40
         try clear c43
         try clear c43b0
         try clear c43b1
         try clear c44
         try clear c46
         try clear c49
         try clear c50
         try clear c50b0
         try clear c50b1
         try clear c50b2
         try clear c52
         try clear c55
         try clear c55b0
         try clear c55b1
         try clear c57
         try clear c59
         try clear c63
         try clear c63b0
         try clear c63b1
         try clear c65
         try clear c69
         try clear q69
         try clear hcz14_0
         try clear hcz14_1
         try clear hcz14_2
         try clear hcz14_3
         try clear hcz14_4
         try clear hcz19_0
         try clear hcz19_1
         try clear hcz19_2
         try clear hcz19_3
         try clear hcz19_4
         try clear hcz22_0
         try clear hcz22_1
         try clear hcz22_2
         try clear hcz22_3
         try clear hcz22_4
         try clear hcz25_0
         try clear hcz25_1
         try clear hcz25_2
         try clear hcz25_3
         try clear hcz25_4
         try clear hcz28_0
         try clear hcz28_1
         try clear hcz28_2
         try clear hcz28_3
         try clear hcz28_4
         try clear hcz31_0
         try clear hcz31_1
         try clear hcz31_2
         try clear hcz31_3
         try clear hcz31_4
         try clear hcz34_0
         try clear hcz34_1
         try clear hcz34_2
         try clear hcz34_3
         try clear hcz34_4
         try clear hcz37_0
         try clear hcz37_1
         try clear hcz37_2
         try clear hcz37_3
         try clear hcz37_4
         try clear hcz41_0
         try clear hcz41_1
         try clear hcz41_2
         try clear hcz41_3
         try clear hcz41_4
         try clear hcz45_0
         try clear hcz45_1
         try clear hcz45_2
         try clear hcz45_3
         try clear hcz45_4
         try clear hcz47_0
         try clear hcz47_1
         try clear hcz47_2
         try clear hcz47_3
         try clear hcz47_4
         try clear hcz53_0
         try clear hcz53_1
         try clear hcz53_2
         try clear hcz53_3
         try clear hcz53_4
         try clear hcz54_0
         try clear hcz54_1
         try clear hcz54_2
         try clear hcz54_3
         try clear hcz54_4
         try clear hcz60_0
         try clear hcz60_1
         try clear hcz60_2
         try clear hcz60_3
         try clear hcz60_4
         try clear hcz61_0
         try clear hcz61_1
         try clear hcz61_2
         try clear hcz61_3
         try clear hcz61_4
         try clear hcz66_0
         try clear hcz66_1
         try clear hcz66_2
         try clear hcz66_3
         try clear hcz66_4
         try clear hcz68_0
         try clear hcz68_1
         try clear hcz68_2
         try clear hcz68_3
         try clear hcz68_4
         try clear hcz6_0
         try clear hcz6_1
         try clear hcz6_2
         try clear hcz6_3
         try clear hcz6_4
         try clear hcz7_0
         try clear hcz7_1
         try clear hcz7_2
         try clear hcz7_3
         try clear hcz7_4
         try clear hfz14_0
         try clear hfz14_1
         try clear hfz14_2
         try clear hfz14_3
         try clear hfz14_4
         try clear hfz19_0
         try clear hfz19_1
         try clear hfz19_2
         try clear hfz19_3
         try clear hfz19_4
         try clear hfz22_0
         try clear hfz22_1
         try clear hfz22_2
         try clear hfz22_3
         try clear hfz22_4
         try clear hfz25_0
         try clear hfz25_1
         try clear hfz25_2
         try clear hfz25_3
         try clear hfz25_4
         try clear hfz28_0
         try clear hfz28_1
         try clear hfz28_2
         try clear hfz28_3
         try clear hfz28_4
         try clear hfz31_0
         try clear hfz31_1
         try clear hfz31_2
         try clear hfz31_3
         try clear hfz31_4
         try clear hfz34_0
         try clear hfz34_1
         try clear hfz34_2
         try clear hfz34_3
         try clear hfz34_4
         try clear hfz37_0
         try clear hfz37_1
         try clear hfz37_2
         try clear hfz37_3
         try clear hfz37_4
         try clear hfz41_0
         try clear hfz41_1
         try clear hfz41_2
         try clear hfz41_3
         try clear hfz41_4
         try clear hfz45_0
         try clear hfz45_1
         try clear hfz45_2
         try clear hfz45_3
         try clear hfz45_4
         try clear hfz47_0
         try clear hfz47_1
         try clear hfz47_2
         try clear hfz47_3
         try clear hfz47_4
         try clear hfz53_0
         try clear hfz53_1
         try clear hfz53_2
         try clear hfz53_3
         try clear hfz53_4
         try clear hfz54_0
         try clear hfz54_1
         try clear hfz54_2
         try clear hfz54_3
         try clear hfz54_4
         try clear hfz60_0
         try clear hfz60_1
         try clear hfz60_2
         try clear hfz60_3
         try clear hfz60_4
         try clear hfz61_0
         try clear hfz61_1
         try clear hfz61_2
         try clear hfz61_3
         try clear hfz61_4
         try clear hfz66_0
         try clear hfz66_1
         try clear hfz66_2
         try clear hfz66_3
         try clear hfz66_4
         try clear hfz68_0
         try clear hfz68_1
         try clear hfz68_2
         try clear hfz68_3
         try clear hfz68_4
         try clear hfz6_0
         try clear hfz6_1
         try clear hfz6_2
         try clear hfz6_3
         try clear hfz6_4
         try clear hfz7_0
         try clear hfz7_1
         try clear hfz7_2
         try clear hfz7_3
         try clear hfz7_4
         try clear hx254_0
         try clear hx255_0
         try clear hx257_0
         try clear hx259_0
         try clear p2
         try clear p25
         try clear p254
         try clear p255
         try clear p257
         try clear p259
         try clear q1
         try clear q16
         try clear q2
         try clear q25
         try clear q254
         try clear q255
         try clear q257
         try clear q259
         try clear q69
         obtain ⟨kq, x6_47, x7_47, x248000_47, x248001_47, x248002_47, x248003_47, x248004_47, x249002_47, rfl, HA, HJ47, HO_6, BK247, BK248, HB⟩ := hcut
         cases kq with
         | zero => exact absurd HA.out (by simp [tmplpiperef11_form.j2])
         | succ kj47 =>
          have H := HA.out
          clear HA
          simp only [tmplpiperef11_form.j2] at H
          have HC70 := Aside0.mk H
          clear H
          go_upto_region 30 with (fail)
          go_cut [91] (fun v91 wc => ∃ (kq : Nat) (x91_69 : Bool), v91 = .bool x91_69 ∧ Aside0 (tmplpiperef11_form.j3 kq x6_47 x7_47 x91_69 x249000_9 0 x249002_47 (⟨#[]⟩ : ByteArray) false = some (r1, r2, r3, r4, r5, r6, r7)) ∧ Aside0 (kq ≤ kj47) ∧ Aside0 (Kd.V Kd.string 9 wc w.heap.size (fun k_ => (P0_ k_ ∨ w.heap.size ≤ k_) ∧ k_ ≠ gb247 ∧ k_ ≠ gb248) u6 x6_47) ∧ Aside0 (wc.heap[gb247]? = some (.cells #[.int .i64 x248000_47, .int .i64 x248001_47, .string x248002_47, .string x248003_47, .bool x248004_47] 140 (0, 0))) ∧ Aside0 (wc.heap[gb248]? = some (.cells #[.int .i64 x249000_9, .int .i64 0, .string x249002_47, .string (⟨#[]⟩ : ByteArray), .bool false] 140 (0, 0))) ∧ Aside0 (Below w.heap.size w wc))
          case first =>
           have H := HC70.out
           clear HC70
           by_cases c71 : x249000_9 ≥ 1
           ·rw [if_pos c71] at H
            have c71b0 : decide (1 ≤ x249000_9) = true := decide_eq_true c71
            clear c71
            (first | rw [c71b0] | (simp only [i64_w, i32_w]; rw [c71b0]) | skip)
            by_cases c72 : x249000_9 ≤ 3
            ·rw [if_pos c72] at H
             have c72b0 : decide (x249000_9 ≤ 3) = true := decide_eq_true c72
             clear c72
             have H' := Aside0.mk H
             clear H
             have hnb73 := NB248_247.out
             have hnc73 := NB247_248.out
             have hcz74_0 : wc.cell? ⟨gb248, 0, none⟩ = some (.int .i64 x249000_9) := (blk_cell BK248.out 0).trans rfl
             have hcz74_1 : wc.cell? ⟨gb248, 1, none⟩ = some (.int .i64 0) := (blk_cell BK248.out 1).trans rfl
             have hcz74_2 : wc.cell? ⟨gb248, 2, none⟩ = some (.string x249002_47) := (blk_cell BK248.out 2).trans rfl
             have hcz74_3 : wc.cell? ⟨gb248, 3, none⟩ = some (.string (⟨#[]⟩ : ByteArray)) := (blk_cell BK248.out 3).trans rfl
             have hcz74_4 : wc.cell? ⟨gb248, 4, none⟩ = some (.bool false) := (blk_cell BK248.out 4).trans rfl
             have hfz74_0 := blk_frozen BK248.out 0
             have hfz74_1 := blk_frozen BK248.out 1
             have hfz74_2 := blk_frozen BK248.out 2
             have hfz74_3 := blk_frozen BK248.out 3
             have hfz74_4 := blk_frozen BK248.out 4
             go_wp2
             go_meet
             case rel => exact ⟨_, (true), (by first | rfl | (simp; done) | (simp [*]; done)), H', ⟨by have := HJ9.out; have := HJ41.out; have := HJ47.out; first | omega | exact Nat.le_refl _⟩, ⟨by (with_reducible repeat (first | apply Kd.V_alloc | apply Kd.V_drewN | apply Kd.V_drew)); exact HO_6.out⟩, ⟨by (with_reducible repeat (first | refine blk_drewN ?_ _ | refine blk_drew ?_ | refine blk_alloc ?_ _)); exact BK247.out⟩, ⟨by (with_reducible repeat (first | refine blk_drewN ?_ _ | refine blk_drew ?_ | refine blk_alloc ?_ _)); exact BK248.out⟩, ⟨by repeat (first | (with_reducible first | exact HB.out | apply below_alloc | apply pw_below_drewN | apply below_drew1 | refine below_set ?_ GE247.out | refine below_set ?_ GE248.out) | exact HB.out)⟩⟩
            ·rw [if_neg c72] at H
             have c72b0 : decide (x249000_9 ≤ 3) = false := decide_eq_false c72
             clear c72
             by_cases c75 : x249000_9 = 4
             ·rw [if_pos c75] at H
              have c75b0 : (x249000_9 == 4) = true := beq_iff_eq.mpr c75
              have c75b1 : (x249000_9 != 4) = false := bne_eq_false_iff_eq.mpr c75
              clear c75
              have H' := Aside0.mk H
              clear H
              have hnb76 := NB248_247.out
              have hnc76 := NB247_248.out
              have hcz77_0 : wc.cell? ⟨gb248, 0, none⟩ = some (.int .i64 x249000_9) := (blk_cell BK248.out 0).trans rfl
              have hcz77_1 : wc.cell? ⟨gb248, 1, none⟩ = some (.int .i64 0) := (blk_cell BK248.out 1).trans rfl
              have hcz77_2 : wc.cell? ⟨gb248, 2, none⟩ = some (.string x249002_47) := (blk_cell BK248.out 2).trans rfl
              have hcz77_3 : wc.cell? ⟨gb248, 3, none⟩ = some (.string (⟨#[]⟩ : ByteArray)) := (blk_cell BK248.out 3).trans rfl
              have hcz77_4 : wc.cell? ⟨gb248, 4, none⟩ = some (.bool false) := (blk_cell BK248.out 4).trans rfl
              have hfz77_0 := blk_frozen BK248.out 0
              have hfz77_1 := blk_frozen BK248.out 1
              have hfz77_2 := blk_frozen BK248.out 2
              have hfz77_3 := blk_frozen BK248.out 3
              have hfz77_4 := blk_frozen BK248.out 4
              obtain ⟨Ao78, co78, eo78⟩ := Kd.V_slice HO_6.out
              subst eo78
              go_wp2
              go_meet
              case rel => exact ⟨_, (decide ((x6_47.length : Int) > 0)), (by first | rfl | (simp; done) | (simp [*]; done)), H', ⟨by have := HJ9.out; have := HJ41.out; have := HJ47.out; first | omega | exact Nat.le_refl _⟩, ⟨by (with_reducible repeat (first | apply Kd.V_alloc | apply Kd.V_drewN | apply Kd.V_drew)); exact HO_6.out⟩, ⟨by (with_reducible repeat (first | refine blk_drewN ?_ _ | refine blk_drew ?_ | refine blk_alloc ?_ _)); exact BK247.out⟩, ⟨by (with_reducible repeat (first | refine blk_drewN ?_ _ | refine blk_drew ?_ | refine blk_alloc ?_ _)); exact BK248.out⟩, ⟨by repeat (first | (with_reducible first | exact HB.out | apply below_alloc | apply pw_below_drewN | apply below_drew1 | refine below_set ?_ GE247.out | refine below_set ?_ GE248.out) | exact HB.out)⟩⟩
             ·rw [if_neg c75] at H
              have c75b0 : (x249000_9 == 4) = false := beq_eq_false_iff_ne.mpr c75
              have c75b1 : (x249000_9 != 4) = true := bne_iff_ne.mpr c75
              have H' := Aside0.mk H
              clear H
              have hnb79 := NB248_247.out
              have hnc79 := NB247_248.out
              have hcz80_0 : wc.cell? ⟨gb248, 0, none⟩ = some (.int .i64 x249000_9) := (blk_cell BK248.out 0).trans rfl
              have hcz80_1 : wc.cell? ⟨gb248, 1, none⟩ = some (.int .i64 0) := (blk_cell BK248.out 1).trans rfl
              have hcz80_2 : wc.cell? ⟨gb248, 2, none⟩ = some (.string x249002_47) := (blk_cell BK248.out 2).trans rfl
              have hcz80_3 : wc.cell? ⟨gb248, 3, none⟩ = some (.string (⟨#[]⟩ : ByteArray)) := (blk_cell BK248.out 3).trans rfl
              have hcz80_4 : wc.cell? ⟨gb248, 4, none⟩ = some (.bool false) := (blk_cell BK248.out 4).trans rfl
              have hfz80_0 := blk_frozen BK248.out 0
              have hfz80_1 := blk_frozen BK248.out 1
              have hfz80_2 := blk_frozen BK248.out 2
              have hfz80_3 := blk_frozen BK248.out 3
              have hfz80_4 := blk_frozen BK248.out 4
              go_wp2
              go_meet
              case rel => exact ⟨_, (false), (by first | rfl | (simp; done) | (simp [*]; done)), H', ⟨by have := HJ9.out; have := HJ41.out; have := HJ47.out; first | omega | exact Nat.le_refl _⟩, ⟨by (with_reducible repeat (first | apply Kd.V_alloc | apply Kd.V_drewN | apply Kd.V_drew)); exact HO_6.out⟩, ⟨by (with_reducible repeat (first | refine blk_drewN ?_ _ | refine blk_drew ?_ | refine blk_alloc ?_ _)); exact BK247.out⟩, ⟨by (with_reducible repeat (first | refine blk_drewN ?_ _ | refine blk_drew ?_ | refine blk_alloc ?_ _)); exact BK248.out⟩, ⟨by repeat (first | (with_reducible first | exact HB.out | apply below_alloc | apply pw_below_drewN | apply below_drew1 | refine below_set ?_ GE247.out | refine below_set ?_ GE248.out) | exact HB.out)⟩⟩
           ·rw [if_neg c71] at H
            have c71b0 : decide (1 ≤ x249000_9) = false := decide_eq_false c71
            clear c71
            (first | rw [c71b0] | (simp only [i64_w, i32_w]; rw [c71b0]) | skip)
            by_cases c81 : x249000_9 = 4
            ·rw [if_pos c81] at H
             have c81b0 : (x249000_9 == 4) = true := beq_iff_eq.mpr c81
             have c81b1 : (x249000_9 != 4) = false := bne_eq_false_iff_eq.mpr c81
             clear c81
             have H' := Aside0.mk H
             clear H
             have hnb82 := NB248_247.out
             have hnc82 := NB247_248.out
             have hcz83_0 : wc.cell? ⟨gb248, 0, none⟩ = some (.int .i64 x249000_9) := (blk_cell BK248.out 0).trans rfl
             have hcz83_1 : wc.cell? ⟨gb248, 1, none⟩ = some (.int .i64 0) := (blk_cell BK248.out 1).trans rfl
             have hcz83_2 : wc.cell? ⟨gb248, 2, none⟩ = some (.string x249002_47) := (blk_cell BK248.out 2).trans rfl
             have hcz83_3 : wc.cell? ⟨gb248, 3, none⟩ = some (.string (⟨#[]⟩ : ByteArray)) := (blk_cell BK248.out 3).trans rfl
             have hcz83_4 : wc.cell? ⟨gb248, 4, none⟩ = some (.bool false) := (blk_cell BK248.out 4).trans rfl
             have hfz83_0 := blk_frozen BK248.out 0
             have hfz83_1 := blk_frozen BK248.out 1
             have hfz83_2 := blk_frozen BK248.out 2
             have hfz83_3 := blk_frozen BK248.out 3
             have hfz83_4 := blk_frozen BK248.out 4
             obtain ⟨Ao84, co84, eo84⟩ := Kd.V_slice HO_6.out
             subst eo84
             go_wp2
             go_meet
             case rel => exact ⟨_, (decide ((x6_47.length : Int) > 0)), (by first | rfl | (simp; done) | (simp [*]; done)), H', ⟨by have := HJ9.out; have := HJ41.out; have := HJ47.out; first | omega | exact Nat.le_refl _⟩, ⟨by (with_reducible repeat (first | apply Kd.V_alloc | apply Kd.V_drewN | apply Kd.V_drew)); exact HO_6.out⟩, ⟨by (with_reducible repeat (first | refine blk_drewN ?_ _ | refine blk_drew ?_ | refine blk_alloc ?_ _)); exact BK247.out⟩, ⟨by (with_reducible repeat (first | refine blk_drewN ?_ _ | refine blk_drew ?_ | refine blk_alloc ?_ _)); exact BK248.out⟩, ⟨by repeat (first | (with_reducible first | exact HB.out | apply below_alloc | apply pw_below_drewN | apply below_drew1 | refine below_set ?_ GE247.out | refine below_set ?_ GE248.out) | exact HB.out)⟩⟩
            ·rw [if_neg c81] at H
             have c81b0 : (x249000_9 == 4) = false := beq_eq_false_iff_ne.mpr c81
             have c81b1 : (x249000_9 != 4) = true := bne_iff_ne.mpr c81
             have H' := Aside0.mk H
             clear H
             have hnb85 := NB248_247.out
             have hnc85 := NB247_248.out
             have hcz86_0 : wc.cell? ⟨gb248, 0, none⟩ = some (.int .i64 x249000_9) := (blk_cell BK248.out 0).trans rfl
             have hcz86_1 : wc.cell? ⟨gb248, 1, none⟩ = some (.int .i64 0) := (blk_cell BK248.out 1).trans rfl
             have hcz86_2 : wc.cell? ⟨gb248, 2, none⟩ = some (.string x249002_47) := (blk_cell BK248.out 2).trans rfl
             have hcz86_3 : wc.cell? ⟨gb248, 3, none⟩ = some (.string (⟨#[]⟩ : ByteArray)) := (blk_cell BK248.out 3).trans rfl
             have hcz86_4 : wc.cell? ⟨gb248, 4, none⟩ = some (.bool false) := (blk_cell BK248.out 4).trans rfl
             have hfz86_0 := blk_frozen BK248.out 0
             have hfz86_1 := blk_frozen BK248.out 1
             have hfz86_2 := blk_frozen BK248.out 2
             have hfz86_3 := blk_frozen BK248.out 3
             have hfz86_4 := blk_frozen BK248.out 4
             go_wp2
             go_meet
             case rel => exact ⟨_, (false), (by first | rfl | (simp; done) | (simp [*]; done)), H', ⟨by have := HJ9.out; have := HJ41.out; have := HJ47.out; first | omega | exact Nat.le_refl _⟩, ⟨by (with_reducible repeat (first | apply Kd.V_alloc | apply Kd.V_drewN | apply Kd.V_drew)); exact HO_6.out⟩, ⟨by (with_reducible repeat (first | refine blk_drewN ?_ _ | refine blk_drew ?_ | refine blk_alloc ?_ _)); exact BK247.out⟩, ⟨by (with_reducible repeat (first | refine blk_drewN ?_ _ | refine blk_drew ?_ | refine blk_alloc ?_ _)); exact BK248.out⟩, ⟨by repeat (first | (with_reducible first | exact HB.out | apply below_alloc | apply pw_below_drewN | apply below_drew1 | refine below_set ?_ GE247.out | refine below_set ?_ GE248.out) | exact HB.out)⟩⟩
          case rest =>
           clear HC70
           try clear c1
           try clear q1
           try clear c2
           try clear c2b0
           try clear c2b1
           try clear c2b2
           try clear p2
           try clear q2
           try clear hx2
           try clear qi2
           try clear c3
           try clear c4
           try clear c5
           try clear c6
           try clear q6
           try clear c7
           try clear c8
           try clear c8b0
           try clear c8b1
           try clear c9
           try clear c9b0
           try clear c9b1
           try clear c13
           try clear c16
           try clear q16
           try clear c17
           try clear c17b0
           try clear c17b1
           try clear c18
           try clear c20
           try clear c20b0
           try clear c20b1
           try clear c21
           try clear c23
           try clear c23b0
           try clear c23b1
           try clear c24
           try clear p25
           try clear q25
           try clear hx25
           try clear qi25
           try clear c26
           try clear c26b0
           try clear c26b1
           try clear c27
           try clear c29
           try clear c29b0
           try clear c29b1
           try clear c30
           try clear c32
           try clear c32b0
           try clear c32b1
           try clear c33
           try clear c35
           try clear c35b0
           try clear c35b1
           try clear c36
           try clear c39
           try clear c40
           try clear c43
           try clear c43b0
           try clear c43b1
           try clear c44
           try clear c46
           try clear c49
           try clear c50
           try clear c50b0
           try clear c50b1
           try clear c50b2
           try clear c52
           try clear c55
           try clear c55b0
           try clear c55b1
           try clear c57
           try clear c59
           try clear c63
           try clear c63b0
           try clear c63b1
           try clear c65
           try clear c69
           try clear q69
           try clear c71
           try clear c71b0
           try clear c72
           try clear c72b0
           try clear c73
           try clear c75
           try clear c75b0
           try clear c75b1
           try clear c76
           try clear c79
           try clear c81
           try clear c81b0
           try clear c81b1
           try clear c82
           try clear c85
           try clear c86
           try clear hcz14_0
           try clear hcz14_1
           try clear hcz14_2
           try clear hcz14_3
           try clear hcz14_4
           try clear hcz19_0
           try clear hcz19_1
           try clear hcz19_2
           try clear hcz19_3
           try clear hcz19_4
           try clear hcz22_0
           try clear hcz22_1
           try clear hcz22_2
           try clear hcz22_3
           try clear hcz22_4
           try clear hcz25_0
           try clear hcz25_1
           try clear hcz25_2
           try clear hcz25_3
           try clear hcz25_4
           try clear hcz28_0
           try clear hcz28_1
           try clear hcz28_2
           try clear hcz28_3
           try clear hcz28_4
           try clear hcz31_0
           try clear hcz31_1
           try clear hcz31_2
           try clear hcz31_3
           try clear hcz31_4
           try clear hcz34_0
           try clear hcz34_1
           try clear hcz34_2
           try clear hcz34_3
           try clear hcz34_4
           try clear hcz37_0
           try clear hcz37_1
           try clear hcz37_2
           try clear hcz37_3
           try clear hcz37_4
           try clear hcz41_0
           try clear hcz41_1
           try clear hcz41_2
           try clear hcz41_3
           try clear hcz41_4
           try clear hcz45_0
           try clear hcz45_1
           try clear hcz45_2
           try clear hcz45_3
           try clear hcz45_4
           try clear hcz47_0
           try clear hcz47_1
           try clear hcz47_2
           try clear hcz47_3
           try clear hcz47_4
           try clear hcz53_0
           try clear hcz53_1
           try clear hcz53_2
           try clear hcz53_3
           try clear hcz53_4
           try clear hcz54_0
           try clear hcz54_1
           try clear hcz54_2
           try clear hcz54_3
           try clear hcz54_4
           try clear hcz60_0
           try clear hcz60_1
           try clear hcz60_2
           try clear hcz60_3
           try clear hcz60_4
           try clear hcz61_0
           try clear hcz61_1
           try clear hcz61_2
           try clear hcz61_3
           try clear hcz61_4
           try clear hcz66_0
           try clear hcz66_1
           try clear hcz66_2
           try clear hcz66_3
           try clear hcz66_4
           try clear hcz68_0
           try clear hcz68_1
           try clear hcz68_2
           try clear hcz68_3
           try clear hcz68_4
           try clear hcz6_0
           try clear hcz6_1
           try clear hcz6_2
           try clear hcz6_3
           try clear hcz6_4
           try clear hcz74_0
           try clear hcz74_1
           try clear hcz74_2
           try clear hcz74_3
           try clear hcz74_4
           try clear hcz77_0
           try clear hcz77_1
           try clear hcz77_2
           try clear hcz77_3
           try clear hcz77_4
           try clear hcz7_0
           try clear hcz7_1
           try clear hcz7_2
           try clear hcz7_3
           try clear hcz7_4
           try clear hcz80_0
           try clear hcz80_1
           try clear hcz80_2
           try clear hcz80_3
           try clear hcz80_4
           try clear hcz83_0
           try clear hcz83_1
           try clear hcz83_2
           try clear hcz83_3
           try clear hcz83_4
           try clear hcz86_0
           try clear hcz86_1
           try clear hcz86_2
           try clear hcz86_3
           try clear hcz86_4
           try clear hfz14_0
           try clear hfz14_1
           try clear hfz14_2
           try clear hfz14_3
           try clear hfz14_4
           try clear hfz19_0
           try clear hfz19_1
           try clear hfz19_2
           try clear hfz19_3
           try clear hfz19_4
           try clear hfz22_0
           try clear hfz22_1
           try clear hfz22_2
           try clear hfz22_3
           try clear hfz22_4
           try clear hfz25_0
           try clear hfz25_1
           try clear hfz25_2
           try clear hfz25_3
           try clear hfz25_4
           try clear hfz28_0
           try clear hfz28_1
           try clear hfz28_2
           try clear hfz28_3
           try clear hfz28_4
           try clear hfz31_0
           try clear hfz31_1
           try clear hfz31_2
           try clear hfz31_3
           try clear hfz31_4
           try clear hfz34_0
           try clear hfz34_1
           try clear hfz34_2
           try clear hfz34_3
           try clear hfz34_4
           try clear hfz37_0
           try clear hfz37_1
           try clear hfz37_2
           try clear hfz37_3
           try clear hfz37_4
           try clear hfz41_0
           try clear hfz41_1
           try clear hfz41_2
           try clear hfz41_3
           try clear hfz41_4
           try clear hfz45_0
           try clear hfz45_1
           try clear hfz45_2
           try clear hfz45_3
           try clear hfz45_4
           try clear hfz47_0
           try clear hfz47_1
           try clear hfz47_2
           try clear hfz47_3
           try clear hfz47_4
           try clear hfz53_0
           try clear hfz53_1
           try clear hfz53_2
           try clear hfz53_3
           try clear hfz53_4
           try clear hfz54_0
           try clear hfz54_1
           try clear hfz54_2
           try clear hfz54_3
           try clear hfz54_4
           try clear hfz60_0
           try clear hfz60_1
           try clear hfz60_2
           try clear hfz60_3
           try clear hfz60_4
           try clear hfz61_0
           try clear hfz61_1
           try clear hfz61_2
           try clear hfz61_3
           try clear hfz61_4
           try clear hfz66_0
           try clear hfz66_1
           try clear hfz66_2
           try clear hfz66_3
           try clear hfz66_4
           try clear hfz68_0
           try clear hfz68_1
           try clear hfz68_2
           try clear hfz68_3
           try clear hfz68_4
           try clear hfz6_0
           try clear hfz6_1
           try clear hfz6_2
           try clear hfz6_3
           try clear hfz6_4
           try clear hfz74_0
           try clear hfz74_1
           try clear hfz74_2
           try clear hfz74_3
           try clear hfz74_4
           try clear hfz77_0
           try clear hfz77_1
           try clear hfz77_2
           try clear hfz77_3
           try clear hfz77_4
           try clear hfz7_0
           try clear hfz7_1
           try clear hfz7_2
           try clear hfz7_3
           try clear hfz7_4
           try clear hfz80_0
           try clear hfz80_1
           try clear hfz80_2
           try clear hfz80_3
           try clear hfz80_4
           try clear hfz83_0
           try clear hfz83_1
           try clear hfz83_2
           try clear hfz83_3
           try clear hfz83_4
           try clear hfz86_0
           try clear hfz86_1
           try clear hfz86_2
           try clear hfz86_3
           try clear hfz86_4
           try clear hx254_0
           try clear hx255_0
           try clear hx257_0
           try clear hx259_0
           try clear p2
           try clear p25
           try clear p254
           try clear p255
           try clear p257
           try clear p259
           try clear q1
           try clear q16
           try clear q2
           try clear q25
           try clear q254
           try clear q255
           try clear q257
           try clear q259
           try clear q6
           try clear q69
           obtain ⟨kq, x91_69, rfl, HA, HJ69, HO_6, BK247, BK248, HB⟩ := hcut
           cases kq with
           | zero => exact absurd HA.out (by simp [tmplpiperef11_form.j3])
           | succ kj69 =>
            have H := HA.out
            clear HA
            simp only [tmplpiperef11_form.j3] at H
            by_cases c87 : x91_69 = true
            ·subst c87
             have H1 : (if (x6_47.length : Int) = 0 then (some (x249000_9, 0, x249002_47, (⟨#[]⟩ : ByteArray), false, false, false)) else (if 0 < (x6_47.length : Int) then ((tmplpiperef11_path.f (rdOf ByteArray.empty x6_47 0)).bind fun t267 => (if t267 = true then (if 1 ≤ ((rdOf ByteArray.empty x6_47 0).size : Int) then ((tmplpiperef09_Split.f kj69 ((rdOf ByteArray.empty x6_47 0).extract 1 (rdOf ByteArray.empty x6_47 0).size)).bind fun bt269 => (if x7_47 = true then (if 1 ≤ (x6_47.length : Int) then (if x249000_9 ≥ 0 then (some (x249000_9, 0, x249002_47, (rdOf ByteArray.empty x6_47 0).extract 1 (rdOf ByteArray.empty x6_47 0).size, true, (((x6_47.drop 1).length : Int) == 0), (bt269.2 == 0))) else (some (x249000_9, 0, x249002_47, (rdOf ByteArray.empty x6_47 0).extract 1 (rdOf ByteArray.empty x6_47 0).size, true, false, (bt269.2 == 0)))) else (none)) else (if 1 ≤ (x6_47.length : Int) then (if x249000_9 ≥ 0 then (some (x249000_9, 0, x249002_47, (rdOf ByteArray.empty x6_47 0).extract 1 (rdOf ByteArray.empty x6_47 0).size, true, (((x6_47.drop 1).length : Int) == 0), false)) else (some (x249000_9, 0, x249002_47, (rdOf ByteArray.empty x6_47 0).extract 1 (rdOf ByteArray.empty x6_47 0).size, true, false, false))) else (none)))) else (none)) else (some (x249000_9, 0, x249002_47, (⟨#[]⟩ : ByteArray), false, false, false)))) else (none))) = some (r1, r2, r3, r4, r5, r6, r7) := by rw [if_pos rfl] at H; exact H
             clear H
             have H := H1
             clear H1
             by_cases c88 : (x6_47.length : Int) = 0
             ·rw [if_pos c88] at H
              have c88b0 : ((x6_47.length : Int) == 0) = true := beq_iff_eq.mpr c88
              have c88b1 : ((x6_47.length : Int) != 0) = false := bne_eq_false_iff_eq.mpr c88
              clear c88
              simp only [Option.some.injEq, Prod.mk.injEq] at H
              obtain ⟨rfl, rfl, rfl, rfl, rfl, rfl, rfl⟩ := H
              obtain ⟨Ao89, co89, eo89⟩ := Kd.V_slice HO_6.out
              subst eo89
              have hnb90 := NB248_247.out
              have hnc90 := NB247_248.out
              have hcz91_0 : wc.cell? ⟨gb248, 0, none⟩ = some (.int .i64 x249000_9) := (blk_cell BK248.out 0).trans rfl
              have hcz91_1 : wc.cell? ⟨gb248, 1, none⟩ = some (.int .i64 0) := (blk_cell BK248.out 1).trans rfl
              have hcz91_2 : wc.cell? ⟨gb248, 2, none⟩ = some (.string x249002_47) := (blk_cell BK248.out 2).trans rfl
              have hcz91_3 : wc.cell? ⟨gb248, 3, none⟩ = some (.string (⟨#[]⟩ : ByteArray)) := (blk_cell BK248.out 3).trans rfl
              have hcz91_4 : wc.cell? ⟨gb248, 4, none⟩ = some (.bool false) := (blk_cell BK248.out 4).trans rfl
              have hfz91_0 := blk_frozen BK248.out 0
              have hfz91_1 := blk_frozen BK248.out 1
              have hfz91_2 := blk_frozen BK248.out 2
              have hfz91_3 := blk_frozen BK248.out 3
              have hfz91_4 := blk_frozen BK248.out 4
              have hcz92_0 : wc.cell? ⟨gb247, 0, none⟩ = some (.int .i64 x248000_47) := (blk_cell BK247.out 0).trans rfl
              have hcz92_1 : wc.cell? ⟨gb247, 1, none⟩ = some (.int .i64 x248001_47) := (blk_cell BK247.out 1).trans rfl
              have hcz92_2 : wc.cell? ⟨gb247, 2, none⟩ = some (.string x248002_47) := (blk_cell BK247.out 2).trans rfl
              have hcz92_3 : wc.cell? ⟨gb247, 3, none⟩ = some (.string x248003_47) := (blk_cell BK247.out 3).trans rfl
              have hcz92_4 : wc.cell? ⟨gb247, 4, none⟩ = some (.bool x248004_47) := (blk_cell BK247.out 4).trans rfl
              have hfz92_0 := blk_frozen BK247.out 0
              have hfz92_1 := blk_frozen BK247.out 1
              have hfz92_2 := blk_frozen BK247.out 2
              have hfz92_3 := blk_frozen BK247.out 3
              have hfz92_4 := blk_frozen BK247.out 4
              go_wp2
              refine bodyPost_ret (results_ctt rfl _ _ gb247 140 #[.int .i64 x249000_9, .int .i64 0, .string x249002_47, .string (⟨#[]⟩ : ByteArray), .bool false] (0, 0) _ rfl (by (with_reducible repeat (first | refine blk_drewN ?_ _ | refine blk_drew ?_ | refine blk_alloc ?_ _)); refine blk_put (cs := #[.int .i64 x249000_9, .int .i64 0, .string x249002_47, .string (⟨#[]⟩ : ByteArray), .bool x248004_47]) ?_ 4 _ rfl; (with_reducible repeat (first | refine blk_drewN ?_ _ | refine blk_drew ?_ | refine blk_alloc ?_ _)); refine blk_put (cs := #[.int .i64 x249000_9, .int .i64 0, .string x249002_47, .string x248003_47, .bool x248004_47]) ?_ 3 _ rfl; (with_reducible repeat (first | refine blk_drewN ?_ _ | refine blk_drew ?_ | refine blk_alloc ?_ _)); refine blk_put (cs := #[.int .i64 x249000_9, .int .i64 0, .string x248002_47, .string x248003_47, .bool x248004_47]) ?_ 2 _ rfl; (with_reducible repeat (first | refine blk_drewN ?_ _ | refine blk_drew ?_ | refine blk_alloc ?_ _)); refine blk_put (cs := #[.int .i64 x249000_9, .int .i64 x248001_47, .string x248002_47, .string x248003_47, .bool x248004_47]) ?_ 1 _ rfl; (with_reducible repeat (first | refine blk_drewN ?_ _ | refine blk_drew ?_ | refine blk_alloc ?_ _)); refine blk_put (cs := #[.int .i64 x248000_47, .int .i64 x248001_47, .string x248002_47, .string x248003_47, .bool x248004_47]) ?_ 0 _ rfl; (with_reducible repeat (first | refine blk_drewN ?_ _ | refine blk_drew ?_ | refine blk_alloc ?_ _)); exact BK247.out) Tryd.underlying140 rfl (by kernel_rfl)) rfl ?_
              exact ⟨by first | rfl | (simp [errW_none, errW_some] <;> rfl) | (simp [*, errW_none, errW_some] <;> rfl), by repeat (first | (with_reducible first | exact HB.out | apply below_alloc | apply pw_below_drewN | apply below_drew1 | refine below_set ?_ GE247.out | refine below_set ?_ GE248.out) | exact HB.out)⟩
             ·rw [if_neg c88] at H
              have c88b0 : ((x6_47.length : Int) == 0) = false := beq_eq_false_iff_ne.mpr c88
              have c88b1 : ((x6_47.length : Int) != 0) = true := bne_iff_ne.mpr c88
              have c88b2 : ¬ (x6_47 = []) := fun h_ => c88 (by rw [h_]; rfl)
              by_cases c93 : 0 < (x6_47.length : Int)
              ·rw [if_pos c93] at H
               have c93b0 : decide (0 < (x6_47.length : Int)) = true := decide_eq_true c93
               have c93b1 : decide (0 < x6_47.length) = true := decide_eq_true (by omega)
               clear c93
               replace H := Option.bind_eq_some_iff.mp H
               obtain ⟨t267, A940, H⟩ := H
               replace H : (if t267 = true then (if 1 ≤ ((rdOf ByteArray.empty x6_47 0).size : Int) then ((tmplpiperef09_Split.f kj69 ((rdOf ByteArray.empty x6_47 0).extract 1 (rdOf ByteArray.empty x6_47 0).size)).bind fun bt269 => (if x7_47 = true then (if 1 ≤ (x6_47.length : Int) then (if x249000_9 ≥ 0 then (some (x249000_9, 0, x249002_47, (rdOf ByteArray.empty x6_47 0).extract 1 (rdOf ByteArray.empty x6_47 0).size, true, (((x6_47.drop 1).length : Int) == 0), (bt269.2 == 0))) else (some (x249000_9, 0, x249002_47, (rdOf ByteArray.empty x6_47 0).extract 1 (rdOf ByteArray.empty x6_47 0).size, true, false, (bt269.2 == 0)))) else (none)) else (if 1 ≤ (x6_47.length : Int) then (if x249000_9 ≥ 0 then (some (x249000_9, 0, x249002_47, (rdOf ByteArray.empty x6_47 0).extract 1 (rdOf ByteArray.empty x6_47 0).size, true, (((x6_47.drop 1).length : Int) == 0), false)) else (some (x249000_9, 0, x249002_47, (rdOf ByteArray.empty x6_47 0).extract 1 (rdOf ByteArray.empty x6_47 0).size, true, false, false))) else (none)))) else (none)) else (some (x249000_9, 0, x249002_47, (⟨#[]⟩ : ByteArray), false, false, false))) = some (r1, r2, r3, r4, r5, r6, r7) := H
               have A94 := Aside0.mk A940
               clear A940
               by_cases c95 : t267 = true
               ·subst c95
                have H1 : (if 1 ≤ ((rdOf ByteArray.empty x6_47 0).size : Int) then ((tmplpiperef09_Split.f kj69 ((rdOf ByteArray.empty x6_47 0).extract 1 (rdOf ByteArray.empty x6_47 0).size)).bind fun bt269 => (if x7_47 = true then (if 1 ≤ (x6_47.length : Int) then (if x249000_9 ≥ 0 then (some (x249000_9, 0, x249002_47, (rdOf ByteArray.empty x6_47 0).extract 1 (rdOf ByteArray.empty x6_47 0).size, true, (((x6_47.drop 1).length : Int) == 0), (bt269.2 == 0))) else (some (x249000_9, 0, x249002_47, (rdOf ByteArray.empty x6_47 0).extract 1 (rdOf ByteArray.empty x6_47 0).size, true, false, (bt269.2 == 0)))) else (none)) else (if 1 ≤ (x6_47.length : Int) then (if x249000_9 ≥ 0 then (some (x249000_9, 0, x249002_47, (rdOf ByteArray.empty x6_47 0).extract 1 (rdOf ByteArray.empty x6_47 0).size, true, (((x6_47.drop 1).length : Int) == 0), false)) else (some (x249000_9, 0, x249002_47, (rdOf ByteArray.empty x6_47 0).extract 1 (rdOf ByteArray.empty x6_47 0).size, true, false, false))) else (none)))) else (none)) = some (r1, r2, r3, r4, r5, r6, r7) := by rw [if_pos rfl] at H; exact H
                clear H
                have H := H1
                clear H1
                by_cases c96 : 1 ≤ ((rdOf ByteArray.empty x6_47 0).size : Int)
                ·rw [if_pos c96] at H
                 have c96b0 := eq_true c96
                 have c96b1 : decide (1 ≤ ((rdOf ByteArray.empty x6_47 0).size : Int)) = true := decide_eq_true c96
                 clear c96
                 replace H := Option.bind_eq_some_iff.mp H
                 obtain ⟨⟨t269, t270⟩, A970, H⟩ := H
                 replace H : (if x7_47 = true then (if 1 ≤ (x6_47.length : Int) then (if x249000_9 ≥ 0 then (some (x249000_9, 0, x249002_47, (rdOf ByteArray.empty x6_47 0).extract 1 (rdOf ByteArray.empty x6_47 0).size, true, (((x6_47.drop 1).length : Int) == 0), (t270 == 0))) else (some (x249000_9, 0, x249002_47, (rdOf ByteArray.empty x6_47 0).extract 1 (rdOf ByteArray.empty x6_47 0).size, true, false, (t270 == 0)))) else (none)) else (if 1 ≤ (x6_47.length : Int) then (if x249000_9 ≥ 0 then (some (x249000_9, 0, x249002_47, (rdOf ByteArray.empty x6_47 0).extract 1 (rdOf ByteArray.empty x6_47 0).size, true, (((x6_47.drop 1).length : Int) == 0), false)) else (some (x249000_9, 0, x249002_47, (rdOf ByteArray.empty x6_47 0).extract 1 (rdOf ByteArray.empty x6_47 0).size, true, false, false))) else (none))) = some (r1, r2, r3, r4, r5, r6, r7) := H
                 have A97 := Aside0.mk A970
                 clear A970
                 by_cases c98 : x7_47 = true
                 ·subst c98
                  have H1 : (if 1 ≤ (x6_47.length : Int) then (if x249000_9 ≥ 0 then (some (x249000_9, 0, x249002_47, (rdOf ByteArray.empty x6_47 0).extract 1 (rdOf ByteArray.empty x6_47 0).size, true, (((x6_47.drop 1).length : Int) == 0), (t270 == 0))) else (some (x249000_9, 0, x249002_47, (rdOf ByteArray.empty x6_47 0).extract 1 (rdOf ByteArray.empty x6_47 0).size, true, false, (t270 == 0)))) else (none)) = some (r1, r2, r3, r4, r5, r6, r7) := by rw [if_pos rfl] at H; exact H
                  clear H
                  have H := H1
                  clear H1
                  by_cases c99 : 1 ≤ (x6_47.length : Int)
                  ·rw [if_pos c99] at H
                   have c99b0 := eq_true c99
                   have c99b1 : decide (1 ≤ (x6_47.length : Int)) = true := decide_eq_true c99
                   clear c99
                   obtain ⟨y273, hy273⟩ : ∃ y_ : List ByteArray, y_ = (x6_47.drop 1) := ⟨_, rfl⟩
                   replace H : (if x249000_9 ≥ 0 then (some (x249000_9, 0, x249002_47, (rdOf ByteArray.empty x6_47 0).extract 1 (rdOf ByteArray.empty x6_47 0).size, true, ((y273.length : Int) == 0), (t270 == 0))) else (some (x249000_9, 0, x249002_47, (rdOf ByteArray.empty x6_47 0).extract 1 (rdOf ByteArray.empty x6_47 0).size, true, false, (t270 == 0)))) = some (r1, r2, r3, r4, r5, r6, r7) := by first | (rw [hy273]; with_reducible exact H) | (have H2_ := (Option.bind_some _ _).symm.trans H; rw [hy273]; with_reducible exact H2_) | (have H2_ := (Option.bind_some _ _).symm.trans H; with_reducible exact H2_) | with_reducible exact H | (rw [hy273]; exact H) | exact H
                   have Ny273 := Aside0.mk hy273
                   clear hy273
                   by_cases c100 : x249000_9 ≥ 0
                   ·rw [if_pos c100] at H
                    have c100b0 : decide (0 ≤ x249000_9) = true := decide_eq_true c100
                    clear c100
                    simp only [Option.some.injEq, Prod.mk.injEq] at H
                    obtain ⟨rfl, rfl, rfl, rfl, rfl, rfl, rfl⟩ := H
                    obtain ⟨Ao101, co101, eo101⟩ := Kd.V_slice HO_6.out
                    subst eo101
                    have p266 : 0 ≤ (0 : Int) := (by omega)
                    have q266 : 0 < (x6_47.length : Int) := of_decide_eq_true (by first | (with_reducible assumption) | assumption)
                    obtain ⟨ad266, e266, hx266_0⟩ := Kd.at_string (Kd.V_reads' HO_6.out).2.2 0 p266 q266
                    cases e266
                    have qi266 : (0 < x6_47.length) = True := eq_true (by omega)
                    (try rw [show ((0 : Int)).toNat = 0 from rfl] at hx266_0)
                    (try rw [Addr.add_zero'] at hx266_0)
                    replace p266 := eq_true p266
                    replace q266 := eq_true q266
                    go_wp2_with (first | (go_at_call 87; (with_reducible refine (tmplpiperef11_path.calls (rdOf ByteArray.empty x6_47 0) true _ A94.out).mono ?_); rintro e w' ⟨rfl, ⟨nd, rfl⟩⟩; (try (rw [drewN_self wc]; generalize hq_ : World.drewN wc _ = wc; have n0_ : Aside0 (Kd.V Kd.string 9 wc w.heap.size (fun k_ => (P0_ k_ ∨ w.heap.size ≤ k_) ∧ k_ ≠ gb247 ∧ k_ ≠ gb248) (.slice (some ad266) x6_47.length co101) x6_47) := ⟨by rw [← hq_]; exact (by (with_reducible repeat (first | apply Kd.V_alloc | apply Kd.V_drewN | apply Kd.V_drew)); exact HO_6.out)⟩; have n1_ : Aside0 (wc.heap[gb247]? = some (.cells #[.int .i64 x248000_47, .int .i64 x248001_47, .string x248002_47, .string x248003_47, .bool x248004_47] 140 (0, 0))) := ⟨by rw [← hq_]; exact (by (with_reducible repeat (first | refine blk_drewN ?_ _ | refine blk_drew ?_ | refine blk_alloc ?_ _)); exact BK247.out)⟩; have n2_ : Aside0 (wc.heap[gb248]? = some (.cells #[.int .i64 x249000_9, .int .i64 0, .string x249002_47, .string (⟨#[]⟩ : ByteArray), .bool false] 140 (0, 0))) := ⟨by rw [← hq_]; exact (by (with_reducible repeat (first | refine blk_drewN ?_ _ | refine blk_drew ?_ | refine blk_alloc ?_ _)); exact BK248.out)⟩; have n3_ : Aside0 (Below w.heap.size w wc) := ⟨by rw [← hq_]; exact (by repeat (first | (with_reducible first | exact HB.out | apply below_alloc | apply pw_below_drewN | apply below_drew1 | refine below_set ?_ GE247.out | refine below_set ?_ GE248.out) | exact HB.out))⟩; clear HO_6 BK247 BK248 HB hq_; have HO_6 := n0_; have BK247 := n1_; have BK248 := n2_; have HB := n3_; clear n0_ n1_ n2_ n3_)); have p268 : 0 ≤ (0 : Int) := (by omega); have q268 : 0 < (x6_47.length : Int) := of_decide_eq_true (by first | (with_reducible assumption) | assumption); obtain ⟨ad268, e268, hx268_0⟩ := Kd.at_string (Kd.V_reads' HO_6.out).2.2 0 p268 q268; obtain rfl : ad266 = ad268 := (by injection e268); have qi268 : (0 < x6_47.length) = True := eq_true (by omega); (try rw [show ((0 : Int)).toNat = 0 from rfl] at hx268_0); (try rw [Addr.add_zero'] at hx268_0); replace p268 := eq_true p268; replace q268 := eq_true q268; have hnb102 := NB248_247.out; have hnc102 := NB247_248.out; have hcz103_0 : wc.cell? ⟨gb248, 0, none⟩ = some (.int .i64 x249000_9) := (blk_cell BK248.out 0).trans rfl; have hcz103_1 : wc.cell? ⟨gb248, 1, none⟩ = some (.int .i64 0) := (blk_cell BK248.out 1).trans rfl; have hcz103_2 : wc.cell? ⟨gb248, 2, none⟩ = some (.string x249002_47) := (blk_cell BK248.out 2).trans rfl; have hcz103_3 : wc.cell? ⟨gb248, 3, none⟩ = some (.string (⟨#[]⟩ : ByteArray)) := (blk_cell BK248.out 3).trans rfl; have hcz103_4 : wc.cell? ⟨gb248, 4, none⟩ = some (.bool false) := (blk_cell BK248.out 4).trans rfl; have hfz103_0 := blk_frozen BK248.out 0; have hfz103_1 := blk_frozen BK248.out 1; have hfz103_2 := blk_frozen BK248.out 2; have hfz103_3 := blk_frozen BK248.out 3; have hfz103_4 := blk_frozen BK248.out 4) | ((with_reducible refine gate_callee (f := 64) rfl ?_); refine goesL_ (some 112) rfl rfl Tryd.func64 (by kernel_rfl) rfl #[.string ((rdOf ByteArray.empty x6_47 0).extract 1 (rdOf ByteArray.empty x6_47 0).size)] rfl (by (try simp only [List.map_toArray, List.map_cons, List.map_nil]); first | done | rfl | (simp only [List.length_drop, List.length_take]; rfl)) ?_; (with_reducible refine (tmplpiperef09_Split.calls kj69 ((rdOf ByteArray.empty x6_47 0).extract 1 (rdOf ByteArray.empty x6_47 0).size) t269 t270 _ A97.out).mono ?_); rintro e w104 ⟨v271, rfl, ho0, hb⟩; refine ⟨_, rfl, ?_⟩; have n0_ := Aside0.mk (Kd.V_elder' (by (with_reducible repeat (first | apply Kd.V_alloc | apply Kd.V_drewN | apply Kd.V_drew)); exact (Kd.V_mono (Kd.V_far (p := ⟨gb248, 4, none⟩) (Kd.V_far (p := ⟨gb248, 3, none⟩) (Kd.V_mono HO_6.out (fun k_ hk => (⟨hk, hk.2.2⟩ : _ ∧ k_ ≠ gb248))) (fun _ hk => hk.2) (.string ((rdOf ByteArray.empty x6_47 0).extract 1 (rdOf ByteArray.empty x6_47 0).size))) (fun _ hk => hk.2) (.bool true)) (fun _ h_ => h_.1))) (Kd.R_base ho0) hb); have n1_ := Aside0.mk (Kd.R_lower (Kd.R_newM (M := fun k_ => (w.heap.size ≤ k_)) ho0 (below_size (by repeat (first | (with_reducible first | exact HB.out | apply below_alloc | apply pw_below_drewN | apply below_drew1 | refine below_set ?_ GE247.out | refine below_set ?_ GE248.out) | exact HB.out))) (fun k_ h_ => h_)) (below_size (by repeat (first | (with_reducible first | exact HB.out | apply below_alloc | apply pw_below_drewN | apply below_drew1 | refine below_set ?_ GE247.out | refine below_set ?_ GE248.out) | exact HB.out)))); have n2_ := Aside0.mk (blk_below (g := gb247) (o := .cells #[.int .i64 x248000_47, .int .i64 x248001_47, .string x248002_47, .string x248003_47, .bool x248004_47] 140 (0, 0)) (by (with_reducible repeat (first | refine blk_drewN ?_ _ | refine blk_drew ?_ | refine blk_alloc ?_ _)); refine blk_far ?_ NB247_248.out _; (with_reducible repeat (first | refine blk_drewN ?_ _ | refine blk_drew ?_ | refine blk_alloc ?_ _)); refine blk_far ?_ NB247_248.out _; (with_reducible repeat (first | refine blk_drewN ?_ _ | refine blk_drew ?_ | refine blk_alloc ?_ _)); exact BK247.out) hb); have n3_ := Aside0.mk (blk_below (g := gb248) (o := .cells #[.int .i64 x249000_9, .int .i64 0, .string x249002_47, .string ((rdOf ByteArray.empty x6_47 0).extract 1 (rdOf ByteArray.empty x6_47 0).size), .bool true] 140 (0, 0)) (by (with_reducible repeat (first | refine blk_drewN ?_ _ | refine blk_drew ?_ | refine blk_alloc ?_ _)); refine blk_put (cs := #[.int .i64 x249000_9, .int .i64 0, .string x249002_47, .string ((rdOf ByteArray.empty x6_47 0).extract 1 (rdOf ByteArray.empty x6_47 0).size), .bool false]) ?_ 4 _ rfl; (with_reducible repeat (first | refine blk_drewN ?_ _ | refine blk_drew ?_ | refine blk_alloc ?_ _)); refine blk_put (cs := #[.int .i64 x249000_9, .int .i64 0, .string x249002_47, .string (⟨#[]⟩ : ByteArray), .bool false]) ?_ 3 _ rfl; (with_reducible repeat (first | refine blk_drewN ?_ _ | refine blk_drew ?_ | refine blk_alloc ?_ _)); exact BK248.out) hb); have n4_ := Aside0.mk (below_step (by repeat (first | (with_reducible first | exact HB.out | apply below_alloc | apply pw_below_drewN | apply below_drew1 | refine below_set ?_ GE247.out | refine below_set ?_ GE248.out) | exact HB.out)) hb); clear HO_6; clear BK247; clear BK248; clear HB; have HO_6 := n0_; have HO272 := n1_; have BK247 := n2_; have BK248 := n3_; have HB := n4_; clear n0_ n1_ n2_ n3_ n4_; (try clear hb); (try clear hb2); (try clear hk); (try clear hi); (try clear ho0); have q105 : (1 : Int) ≤ ((x6_47.length : Int) : Int) := of_decide_eq_true (by first | (with_reducible assumption) | assumption); obtain ⟨i0105, hi0105, _, hsz105, _⟩ := info_parts info9; have hroom105 : x6_47.length ≤ co101 := (Kd.V_reads' HO_6.out).2.1; have hC105 : Kd.F Kd.string _ _ (some ad266) x6_47.length x6_47 := (Kd.V_at (base := w.heap.size) HO_6.out).2.2; have hcut105 := cut_from (P := Tryd.prog) 114 9 .i64 Tryd.underlying114 hi0105 1 hsz105 (some ad266) x6_47.length co101 1 (by omega) q105; have hr105 := Kd.F_cut (m := (1 : Int).toNat) (c := co101) hC105 (by omega) hroom105; obtain ⟨A105, hA105⟩ : ∃ A1, A1 = (if co101 = (1 : Int).toNat then (some ad266) else ((some ad266) : Option Addr).map (·.add ((1 : Int).toNat * 1))) := ⟨_, rfl⟩; obtain ⟨c105, hc105⟩ : ∃ c1, c1 = co101 - (1 : Int).toNat := ⟨_, rfl⟩; have hy105 : y273.length = x6_47.length - (1 : Int).toNat := (by rw [Ny273.out, List.length_drop] <;> omega); rw [show (x6_47).drop (1 : Int).toNat = y273 from Ny273.out.symm] at hr105; replace hr105 : Kd.F Kd.string _ _ A105 y273.length y273 := (by rw [hA105]; exact hr105); rw [← hy105, ← hA105, ← hc105] at hcut105; have HO277 := Aside0.mk (show Kd.V Kd.string 9 _ w.heap.size _ (.slice A105 y273.length c105) y273 from Kd.V_mk (by rw [hy105, hc105]; exact Nat.sub_le_sub_right hroom105 _) hr105); have HC277 := Aside0.mk (show y273.length ≤ c105 from by rw [hy105, hc105]; exact Nat.sub_le_sub_right hroom105 _); clear hr105 hC105 hroom105 hi0105 hsz105 hc105; have KY105 := Aside0.mk hy105; have KA105 := Aside0.mk hA105; clear hy105 hA105; replace q105 := eq_true q105; have hcz106_0 : w104.cell? ⟨gb248, 0, none⟩ = some (.int .i64 x249000_9) := (blk_cell BK248.out 0).trans rfl; have hcz106_1 : w104.cell? ⟨gb248, 1, none⟩ = some (.int .i64 0) := (blk_cell BK248.out 1).trans rfl; have hcz106_2 : w104.cell? ⟨gb248, 2, none⟩ = some (.string x249002_47) := (blk_cell BK248.out 2).trans rfl; have hcz106_3 : w104.cell? ⟨gb248, 3, none⟩ = some (.string ((rdOf ByteArray.empty x6_47 0).extract 1 (rdOf ByteArray.empty x6_47 0).size)) := (blk_cell BK248.out 3).trans rfl; have hcz106_4 : w104.cell? ⟨gb248, 4, none⟩ = some (.bool true) := (blk_cell BK248.out 4).trans rfl; have hfz106_0 := blk_frozen BK248.out 0; have hfz106_1 := blk_frozen BK248.out 1; have hfz106_2 := blk_frozen BK248.out 2; have hfz106_3 := blk_frozen BK248.out 3; have hfz106_4 := blk_frozen BK248.out 4; have hcz107_0 : w104.cell? ⟨gb247, 0, none⟩ = some (.int .i64 x248000_47) := (blk_cell BK247.out 0).trans rfl; have hcz107_1 : w104.cell? ⟨gb247, 1, none⟩ = some (.int .i64 x248001_47) := (blk_cell BK247.out 1).trans rfl; have hcz107_2 : w104.cell? ⟨gb247, 2, none⟩ = some (.string x248002_47) := (blk_cell BK247.out 2).trans rfl; have hcz107_3 : w104.cell? ⟨gb247, 3, none⟩ = some (.string x248003_47) := (blk_cell BK247.out 3).trans rfl; have hcz107_4 : w104.cell? ⟨gb247, 4, none⟩ = some (.bool x248004_47) := (blk_cell BK247.out 4).trans rfl; have hfz107_0 := blk_frozen BK247.out 0; have hfz107_1 := blk_frozen BK247.out 1; have hfz107_2 := blk_frozen BK247.out 2; have hfz107_3 := blk_frozen BK247.out 3; have hfz107_4 := blk_frozen BK247.out 4))
                    refine bodyPost_ret (results_ctt rfl _ _ gb247 140 #[.int .i64 x249000_9, .int .i64 0, .string x249002_47, .string ((rdOf ByteArray.empty x6_47 0).extract 1 (rdOf ByteArray.empty x6_47 0).size), .bool true] (0, 0) _ rfl (by (with_reducible repeat (first | refine blk_drewN ?_ _ | refine blk_drew ?_ | refine blk_alloc ?_ _)); refine blk_put (cs := #[.int .i64 x249000_9, .int .i64 0, .string x249002_47, .string ((rdOf ByteArray.empty x6_47 0).extract 1 (rdOf ByteArray.empty x6_47 0).size), .bool x248004_47]) ?_ 4 _ rfl; (with_reducible repeat (first | refine blk_drewN ?_ _ | refine blk_drew ?_ | refine blk_alloc ?_ _)); refine blk_put (cs := #[.int .i64 x249000_9, .int .i64 0, .string x249002_47, .string x248003_47, .bool x248004_47]) ?_ 3 _ rfl; (with_reducible repeat (first | refine blk_drewN ?_ _ | refine blk_drew ?_ | refine blk_alloc ?_ _)); refine blk_put (cs := #[.int .i64 x249000_9, .int .i64 0, .string x248002_47, .string x248003_47, .bool x248004_47]) ?_ 2 _ rfl; (with_reducible repeat (first | refine blk_drewN ?_ _ | refine blk_drew ?_ | refine blk_alloc ?_ _)); refine blk_put (cs := #[.int .i64 x249000_9, .int .i64 x248001_47, .string x248002_47, .string x248003_47, .bool x248004_47]) ?_ 1 _ rfl; (with_reducible repeat (first | refine blk_drewN ?_ _ | refine blk_drew ?_ | refine blk_alloc ?_ _)); refine blk_put (cs := #[.int .i64 x248000_47, .int .i64 x248001_47, .string x248002_47, .string x248003_47, .bool x248004_47]) ?_ 0 _ rfl; (with_reducible repeat (first | refine blk_drewN ?_ _ | refine blk_drew ?_ | refine blk_alloc ?_ _)); exact BK247.out) Tryd.underlying140 rfl (by kernel_rfl)) rfl ?_
                    exact ⟨by first | rfl | (simp [errW_none, errW_some] <;> rfl) | (simp [*, errW_none, errW_some] <;> rfl), by repeat (first | (with_reducible first | exact HB.out | apply below_alloc | apply pw_below_drewN | apply below_drew1 | refine below_set ?_ GE247.out | refine below_set ?_ GE248.out) | exact HB.out)⟩
                   ·rw [if_neg c100] at H
                    have c100b0 : decide (0 ≤ x249000_9) = false := decide_eq_false c100
                    clear c100
                    simp only [Option.some.injEq, Prod.mk.injEq] at H
                    obtain ⟨rfl, rfl, rfl, rfl, rfl, rfl, rfl⟩ := H
                    obtain ⟨Ao108, co108, eo108⟩ := Kd.V_slice HO_6.out
                    subst eo108
                    have p266 : 0 ≤ (0 : Int) := (by omega)
                    have q266 : 0 < (x6_47.length : Int) := of_decide_eq_true (by first | (with_reducible assumption) | assumption)
                    obtain ⟨ad266, e266, hx266_0⟩ := Kd.at_string (Kd.V_reads' HO_6.out).2.2 0 p266 q266
                    cases e266
                    have qi266 : (0 < x6_47.length) = True := eq_true (by omega)
                    (try rw [show ((0 : Int)).toNat = 0 from rfl] at hx266_0)
                    (try rw [Addr.add_zero'] at hx266_0)
                    replace p266 := eq_true p266
                    replace q266 := eq_true q266
                    go_wp2_with (first | (go_at_call 87; (with_reducible refine (tmplpiperef11_path.calls (rdOf ByteArray.empty x6_47 0) true _ A94.out).mono ?_); rintro e w' ⟨rfl, ⟨nd, rfl⟩⟩; (try (rw [drewN_self wc]; generalize hq_ : World.drewN wc _ = wc; have n0_ : Aside0 (Kd.V Kd.string 9 wc w.heap.size (fun k_ => (P0_ k_ ∨ w.heap.size ≤ k_) ∧ k_ ≠ gb247 ∧ k_ ≠ gb248) (.slice (some ad266) x6_47.length co108) x6_47) := ⟨by rw [← hq_]; exact (by (with_reducible repeat (first | apply Kd.V_alloc | apply Kd.V_drewN | apply Kd.V_drew)); exact HO_6.out)⟩; have n1_ : Aside0 (wc.heap[gb247]? = some (.cells #[.int .i64 x248000_47, .int .i64 x248001_47, .string x248002_47, .string x248003_47, .bool x248004_47] 140 (0, 0))) := ⟨by rw [← hq_]; exact (by (with_reducible repeat (first | refine blk_drewN ?_ _ | refine blk_drew ?_ | refine blk_alloc ?_ _)); exact BK247.out)⟩; have n2_ : Aside0 (wc.heap[gb248]? = some (.cells #[.int .i64 x249000_9, .int .i64 0, .string x249002_47, .string (⟨#[]⟩ : ByteArray), .bool false] 140 (0, 0))) := ⟨by rw [← hq_]; exact (by (with_reducible repeat (first | refine blk_drewN ?_ _ | refine blk_drew ?_ | refine blk_alloc ?_ _)); exact BK248.out)⟩; have n3_ : Aside0 (Below w.heap.size w wc) := ⟨by rw [← hq_]; exact (by repeat (first | (with_reducible first | exact HB.out | apply below_alloc | apply pw_below_drewN | apply below_drew1 | refine below_set ?_ GE247.out | refine below_set ?_ GE248.out) | exact HB.out))⟩; clear HO_6 BK247 BK248 HB hq_; have HO_6 := n0_; have BK247 := n1_; have BK248 := n2_; have HB := n3_; clear n0_ n1_ n2_ n3_)); have p268 : 0 ≤ (0 : Int) := (by omega); have q268 : 0 < (x6_47.length : Int) := of_decide_eq_true (by first | (with_reducible assumption) | assumption); obtain ⟨ad268, e268, hx268_0⟩ := Kd.at_string (Kd.V_reads' HO_6.out).2.2 0 p268 q268; obtain rfl : ad266 = ad268 := (by injection e268); have qi268 : (0 < x6_47.length) = True := eq_true (by omega); (try rw [show ((0 : Int)).toNat = 0 from rfl] at hx268_0); (try rw [Addr.add_zero'] at hx268_0); replace p268 := eq_true p268; replace q268 := eq_true q268; have hnb109 := NB248_247.out; have hnc109 := NB247_248.out; have hcz110_0 : wc.cell? ⟨gb248, 0, none⟩ = some (.int .i64 x249000_9) := (blk_cell BK248.out 0).trans rfl; have hcz110_1 : wc.cell? ⟨gb248, 1, none⟩ = some (.int .i64 0) := (blk_cell BK248.out 1).trans rfl; have hcz110_2 : wc.cell? ⟨gb248, 2, none⟩ = some (.string x249002_47) := (blk_cell BK248.out 2).trans rfl; have hcz110_3 : wc.cell? ⟨gb248, 3, none⟩ = some (.string (⟨#[]⟩ : ByteArray)) := (blk_cell BK248.out 3).trans rfl; have hcz110_4 : wc.cell? ⟨gb248, 4, none⟩ = some (.bool false) := (blk_cell BK248.out 4).trans rfl; have hfz110_0 := blk_frozen BK248.out 0; have hfz110_1 := blk_frozen BK248.out 1; have hfz110_2 := blk_frozen BK248.out 2; have hfz110_3 := blk_frozen BK248.out 3; have hfz110_4 := blk_frozen BK248.out 4) | ((with_reducible refine gate_callee (f := 64) rfl ?_); refine goesL_ (some 112) rfl rfl Tryd.func64 (by kernel_rfl) rfl #[.string ((rdOf ByteArray.empty x6_47 0).extract 1 (rdOf ByteArray.empty x6_47 0).size)] rfl (by (try simp only [List.map_toArray, List.map_cons, List.map_nil]); first | done | rfl | (simp only [List.length_drop, List.length_take]; rfl)) ?_; (with_reducible refine (tmplpiperef09_Split.calls kj69 ((rdOf ByteArray.empty x6_47 0).extract 1 (rdOf ByteArray.empty x6_47 0).size) t269 t270 _ A97.out).mono ?_); rintro e w111 ⟨v271, rfl, ho0, hb⟩; refine ⟨_, rfl, ?_⟩; have n0_ := Aside0.mk (Kd.V_elder' (by (with_reducible repeat (first | apply Kd.V_alloc | apply Kd.V_drewN | apply Kd.V_drew)); exact (Kd.V_mono (Kd.V_far (p := ⟨gb248, 4, none⟩) (Kd.V_far (p := ⟨gb248, 3, none⟩) (Kd.V_mono HO_6.out (fun k_ hk => (⟨hk, hk.2.2⟩ : _ ∧ k_ ≠ gb248))) (fun _ hk => hk.2) (.string ((rdOf ByteArray.empty x6_47 0).extract 1 (rdOf ByteArray.empty x6_47 0).size))) (fun _ hk => hk.2) (.bool true)) (fun _ h_ => h_.1))) (Kd.R_base ho0) hb); have n1_ := Aside0.mk (Kd.R_lower (Kd.R_newM (M := fun k_ => (w.heap.size ≤ k_)) ho0 (below_size (by repeat (first | (with_reducible first | exact HB.out | apply below_alloc | apply pw_below_drewN | apply below_drew1 | refine below_set ?_ GE247.out | refine below_set ?_ GE248.out) | exact HB.out))) (fun k_ h_ => h_)) (below_size (by repeat (first | (with_reducible first | exact HB.out | apply below_alloc | apply pw_below_drewN | apply below_drew1 | refine below_set ?_ GE247.out | refine below_set ?_ GE248.out) | exact HB.out)))); have n2_ := Aside0.mk (blk_below (g := gb247) (o := .cells #[.int .i64 x248000_47, .int .i64 x248001_47, .string x248002_47, .string x248003_47, .bool x248004_47] 140 (0, 0)) (by (with_reducible repeat (first | refine blk_drewN ?_ _ | refine blk_drew ?_ | refine blk_alloc ?_ _)); refine blk_far ?_ NB247_248.out _; (with_reducible repeat (first | refine blk_drewN ?_ _ | refine blk_drew ?_ | refine blk_alloc ?_ _)); refine blk_far ?_ NB247_248.out _; (with_reducible repeat (first | refine blk_drewN ?_ _ | refine blk_drew ?_ | refine blk_alloc ?_ _)); exact BK247.out) hb); have n3_ := Aside0.mk (blk_below (g := gb248) (o := .cells #[.int .i64 x249000_9, .int .i64 0, .string x249002_47, .string ((rdOf ByteArray.empty x6_47 0).extract 1 (rdOf ByteArray.empty x6_47 0).size), .bool true] 140 (0, 0)) (by (with_reducible repeat (first | refine blk_drewN ?_ _ | refine blk_drew ?_ | refine blk_alloc ?_ _)); refine blk_put (cs := #[.int .i64 x249000_9, .int .i64 0, .string x249002_47, .string ((rdOf ByteArray.empty x6_47 0).extract 1 (rdOf ByteArray.empty x6_47 0).size), .bool false]) ?_ 4 _ rfl; (with_reducible repeat (first | refine blk_drewN ?_ _ | refine blk_drew ?_ | refine blk_alloc ?_ _)); refine blk_put (cs := #[.int .i64 x249000_9, .int .i64 0, .string x249002_47, .string (⟨#[]⟩ : ByteArray), .bool false]) ?_ 3 _ rfl; (with_reducible repeat (first | refine blk_drewN ?_ _ | refine blk_drew ?_ | refine blk_alloc ?_ _)); exact BK248.out) hb); have n4_ := Aside0.mk (below_step (by repeat (first | (with_reducible first | exact HB.out | apply below_alloc | apply pw_below_drewN | apply below_drew1 | refine below_set ?_ GE247.out | refine below_set ?_ GE248.out) | exact HB.out)) hb); clear HO_6; clear BK247; clear BK248; clear HB; have HO_6 := n0_; have HO272 := n1_; have BK247 := n2_; have BK248 := n3_; have HB := n4_; clear n0_ n1_ n2_ n3_ n4_; (try clear hb); (try clear hb2); (try clear hk); (try clear hi); (try clear ho0); have q112 : (1 : Int) ≤ ((x6_47.length : Int) : Int) := of_decide_eq_true (by first | (with_reducible assumption) | assumption); obtain ⟨i0112, hi0112, _, hsz112, _⟩ := info_parts info9; have hroom112 : x6_47.length ≤ co108 := (Kd.V_reads' HO_6.out).2.1; have hC112 : Kd.F Kd.string _ _ (some ad266) x6_47.length x6_47 := (Kd.V_at (base := w.heap.size) HO_6.out).2.2; have hcut112 := cut_from (P := Tryd.prog) 114 9 .i64 Tryd.underlying114 hi0112 1 hsz112 (some ad266) x6_47.length co108 1 (by omega) q112; have hr112 := Kd.F_cut (m := (1 : Int).toNat) (c := co108) hC112 (by omega) hroom112; obtain ⟨A112, hA112⟩ : ∃ A1, A1 = (if co108 = (1 : Int).toNat then (some ad266) else ((some ad266) : Option Addr).map (·.add ((1 : Int).toNat * 1))) := ⟨_, rfl⟩; obtain ⟨c112, hc112⟩ : ∃ c1, c1 = co108 - (1 : Int).toNat := ⟨_, rfl⟩; have hy112 : y273.length = x6_47.length - (1 : Int).toNat := (by rw [Ny273.out, List.length_drop] <;> omega); rw [show (x6_47).drop (1 : Int).toNat = y273 from Ny273.out.symm] at hr112; replace hr112 : Kd.F Kd.string _ _ A112 y273.length y273 := (by rw [hA112]; exact hr112); rw [← hy112, ← hA112, ← hc112] at hcut112; have HO277 := Aside0.mk (show Kd.V Kd.string 9 _ w.heap.size _ (.slice A112 y273.length c112) y273 from Kd.V_mk (by rw [hy112, hc112]; exact Nat.sub_le_sub_right hroom112 _) hr112); have HC277 := Aside0.mk (show y273.length ≤ c112 from by rw [hy112, hc112]; exact Nat.sub_le_sub_right hroom112 _); clear hr112 hC112 hroom112 hi0112 hsz112 hc112; have KY112 := Aside0.mk hy112; have KA112 := Aside0.mk hA112; clear hy112 hA112; replace q112 := eq_true q112; have hcz113_0 : w111.cell? ⟨gb248, 0, none⟩ = some (.int .i64 x249000_9) := (blk_cell BK248.out 0).trans rfl; have hcz113_1 : w111.cell? ⟨gb248, 1, none⟩ = some (.int .i64 0) := (blk_cell BK248.out 1).trans rfl; have hcz113_2 : w111.cell? ⟨gb248, 2, none⟩ = some (.string x249002_47) := (blk_cell BK248.out 2).trans rfl; have hcz113_3 : w111.cell? ⟨gb248, 3, none⟩ = some (.string ((rdOf ByteArray.empty x6_47 0).extract 1 (rdOf ByteArray.empty x6_47 0).size)) := (blk_cell BK248.out 3).trans rfl; have hcz113_4 : w111.cell? ⟨gb248, 4, none⟩ = some (.bool true) := (blk_cell BK248.out 4).trans rfl; have hfz113_0 := blk_frozen BK248.out 0; have hfz113_1 := blk_frozen BK248.out 1; have hfz113_2 := blk_frozen BK248.out 2; have hfz113_3 := blk_frozen BK248.out 3; have hfz113_4 := blk_frozen BK248.out 4; have hcz114_0 : w111.cell? ⟨gb247, 0, none⟩ = some (.int .i64 x248000_47) := (blk_cell BK247.out 0).trans rfl; have hcz114_1 : w111.cell? ⟨gb247, 1, none⟩ = some (.int .i64 x248001_47) := (blk_cell BK247.out 1).trans rfl; have hcz114_2 : w111.cell? ⟨gb247, 2, none⟩ = some (.string x248002_47) := (blk_cell BK247.out 2).trans rfl; have hcz114_3 : w111.cell? ⟨gb247, 3, none⟩ = some (.string x248003_47) := (blk_cell BK247.out 3).trans rfl; have hcz114_4 : w111.cell? ⟨gb247, 4, none⟩ = some (.bool x248004_47) := (blk_cell BK247.out 4).trans rfl; have hfz114_0 := blk_frozen BK247.out 0; have hfz114_1 := blk_frozen BK247.out 1; have hfz114_2 := blk_frozen BK247.out 2; have hfz114_3 := blk_frozen BK247.out 3; have hfz114_4 := blk_frozen BK247.out 4))
                    refine bodyPost_ret (results_ctt rfl _ _ gb247 140 #[.int .i64 x249000_9, .int .i64 0, .string x249002_47, .string ((rdOf ByteArray.empty x6_47 0).extract 1 (rdOf ByteArray.empty x6_47 0).size), .bool true] (0, 0) _ rfl (by (with_reducible repeat (first | refine blk_drewN ?_ _ | refine blk_drew ?_ | refine blk_alloc ?_ _)); refine blk_put (cs := #[.int .i64 x249000_9, .int .i64 0, .string x249002_47, .string ((rdOf ByteArray.empty x6_47 0).extract 1 (rdOf ByteArray.empty x6_47 0).size), .bool x248004_47]) ?_ 4 _ rfl; (with_reducible repeat (first | refine blk_drewN ?_ _ | refine blk_drew ?_ | refine blk_alloc ?_ _)); refine blk_put (cs := #[.int .i64 x249000_9, .int .i64 0, .string x249002_47, .string x248003_47, .bool x248004_47]) ?_ 3 _ rfl; (with_reducible repeat (first | refine blk_drewN ?_ _ | refine blk_drew ?_ | refine blk_alloc ?_ _)); refine blk_put (cs := #[.int .i64 x249000_9, .int .i64 0, .string x248002_47, .string x248003_47, .bool x248004_47]) ?_ 2 _ rfl; (with_reducible repeat (first | refine blk_drewN ?_ _ | refine blk_drew ?_ | refine blk_alloc ?_ _)); refine blk_put (cs := #[.int .i64 x249000_9, .int .i64 x248001_47, .string x248002_47, .string x248003_47, .bool x248004_47]) ?_ 1 _ rfl; (with_reducible repeat (first | refine blk_drewN ?_ _ | refine blk_drew ?_ | refine blk_alloc ?_ _)); refine blk_put (cs := #[.int .i64 x248000_47, .int .i64 x248001_47, .string x248002_47, .string x248003_47, .bool x248004_47]) ?_ 0 _ rfl; (with_reducible repeat (first | refine blk_drewN ?_ _ | refine blk_drew ?_ | refine blk_alloc ?_ _)); exact BK247.out) Tryd.underlying140 rfl (by kernel_rfl)) rfl ?_
                    exact ⟨by first | rfl | (simp [errW_none, errW_some] <;> rfl) | (simp [*, errW_none, errW_some] <;> rfl), by repeat (first | (with_reducible first | exact HB.out | apply below_alloc | apply pw_below_drewN | apply below_drew1 | refine below_set ?_ GE247.out | refine below_set ?_ GE248.out) | exact HB.out)⟩
                  ·rw [if_neg c99] at H
                   exact absurd H (by simp)
                 ·replace c98 := Bool.eq_false_iff.mpr c98
                  subst c98
                  have H1 : (if 1 ≤ (x6_47.length : Int) then (if x249000_9 ≥ 0 then (some (x249000_9, 0, x249002_47, (rdOf ByteArray.empty x6_47 0).extract 1 (rdOf ByteArray.empty x6_47 0).size, true, (((x6_47.drop 1).length : Int) == 0), false)) else (some (x249000_9, 0, x249002_47, (rdOf ByteArray.empty x6_47 0).extract 1 (rdOf ByteArray.empty x6_47 0).size, true, false, false))) else (none)) = some (r1, r2, r3, r4, r5, r6, r7) := by rw [if_neg (show ¬ (false = true) by decide)] at H; exact H
                  clear H
                  have H := H1
                  clear H1
                  by_cases c115 : 1 ≤ (x6_47.length : Int)
                  ·rw [if_pos c115] at H
                   have c115b0 := eq_true c115
                   have c115b1 : decide (1 ≤ (x6_47.length : Int)) = true := decide_eq_true c115
                   clear c115
                   obtain ⟨y278, hy278⟩ : ∃ y_ : List ByteArray, y_ = (x6_47.drop 1) := ⟨_, rfl⟩
                   replace H : (if x249000_9 ≥ 0 then (some (x249000_9, 0, x249002_47, (rdOf ByteArray.empty x6_47 0).extract 1 (rdOf ByteArray.empty x6_47 0).size, true, ((y278.length : Int) == 0), false)) else (some (x249000_9, 0, x249002_47, (rdOf ByteArray.empty x6_47 0).extract 1 (rdOf ByteArray.empty x6_47 0).size, true, false, false))) = some (r1, r2, r3, r4, r5, r6, r7) := by first | (rw [hy278]; with_reducible exact H) | (have H2_ := (Option.bind_some _ _).symm.trans H; rw [hy278]; with_reducible exact H2_) | (have H2_ := (Option.bind_some _ _).symm.trans H; with_reducible exact H2_) | with_reducible exact H | (rw [hy278]; exact H) | exact H
                   have Ny278 := Aside0.mk hy278
                   clear hy278
                   by_cases c116 : x249000_9 ≥ 0
                   ·rw [if_pos c116] at H
                    have c116b0 : decide (0 ≤ x249000_9) = true := decide_eq_true c116
                    clear c116
                    simp only [Option.some.injEq, Prod.mk.injEq] at H
                    obtain ⟨rfl, rfl, rfl, rfl, rfl, rfl, rfl⟩ := H
                    obtain ⟨Ao117, co117, eo117⟩ := Kd.V_slice HO_6.out
                    subst eo117
                    have p266 : 0 ≤ (0 : Int) := (by omega)
                    have q266 : 0 < (x6_47.length : Int) := of_decide_eq_true (by first | (with_reducible assumption) | assumption)
                    obtain ⟨ad266, e266, hx266_0⟩ := Kd.at_string (Kd.V_reads' HO_6.out).2.2 0 p266 q266
                    cases e266
                    have qi266 : (0 < x6_47.length) = True := eq_true (by omega)
                    (try rw [show ((0 : Int)).toNat = 0 from rfl] at hx266_0)
                    (try rw [Addr.add_zero'] at hx266_0)
                    replace p266 := eq_true p266
                    replace q266 := eq_true q266
                    go_wp2_with (first | (go_at_call 87; (with_reducible refine (tmplpiperef11_path.calls (rdOf ByteArray.empty x6_47 0) true _ A94.out).mono ?_); rintro e w' ⟨rfl, ⟨nd, rfl⟩⟩; (try (rw [drewN_self wc]; generalize hq_ : World.drewN wc _ = wc; have n0_ : Aside0 (Kd.V Kd.string 9 wc w.heap.size (fun k_ => (P0_ k_ ∨ w.heap.size ≤ k_) ∧ k_ ≠ gb247 ∧ k_ ≠ gb248) (.slice (some ad266) x6_47.length co117) x6_47) := ⟨by rw [← hq_]; exact (by (with_reducible repeat (first | apply Kd.V_alloc | apply Kd.V_drewN | apply Kd.V_drew)); exact HO_6.out)⟩; have n1_ : Aside0 (wc.heap[gb247]? = some (.cells #[.int .i64 x248000_47, .int .i64 x248001_47, .string x248002_47, .string x248003_47, .bool x248004_47] 140 (0, 0))) := ⟨by rw [← hq_]; exact (by (with_reducible repeat (first | refine blk_drewN ?_ _ | refine blk_drew ?_ | refine blk_alloc ?_ _)); exact BK247.out)⟩; have n2_ : Aside0 (wc.heap[gb248]? = some (.cells #[.int .i64 x249000_9, .int .i64 0, .string x249002_47, .string (⟨#[]⟩ : ByteArray), .bool false] 140 (0, 0))) := ⟨by rw [← hq_]; exact (by (with_reducible repeat (first | refine blk_drewN ?_ _ | refine blk_drew ?_ | refine blk_alloc ?_ _)); exact BK248.out)⟩; have n3_ : Aside0 (Below w.heap.size w wc) := ⟨by rw [← hq_]; exact (by repeat (first | (with_reducible first | exact HB.out | apply below_alloc | apply pw_below_drewN | apply below_drew1 | refine below_set ?_ GE247.out | refine below_set ?_ GE248.out) | exact HB.out))⟩; clear HO_6 BK247 BK248 HB hq_; have HO_6 := n0_; have BK247 := n1_; have BK248 := n2_; have HB := n3_; clear n0_ n1_ n2_ n3_)); have p268 : 0 ≤ (0 : Int) := (by omega); have q268 : 0 < (x6_47.length : Int) := of_decide_eq_true (by first | (with_reducible assumption) | assumption); obtain ⟨ad268, e268, hx268_0⟩ := Kd.at_string (Kd.V_reads' HO_6.out).2.2 0 p268 q268; obtain rfl : ad266 = ad268 := (by injection e268); have qi268 : (0 < x6_47.length) = True := eq_true (by omega); (try rw [show ((0 : Int)).toNat = 0 from rfl] at hx268_0); (try rw [Addr.add_zero'] at hx268_0); replace p268 := eq_true p268; replace q268 := eq_true q268; have hnb118 := NB248_247.out; have hnc118 := NB247_248.out; have hcz119_0 : wc.cell? ⟨gb248, 0, none⟩ = some (.int .i64 x249000_9) := (blk_cell BK248.out 0).trans rfl; have hcz119_1 : wc.cell? ⟨gb248, 1, none⟩ = some (.int .i64 0) := (blk_cell BK248.out 1).trans rfl; have hcz119_2 : wc.cell? ⟨gb248, 2, none⟩ = some (.string x249002_47) := (blk_cell BK248.out 2).trans rfl; have hcz119_3 : wc.cell? ⟨gb248, 3, none⟩ = some (.string (⟨#[]⟩ : ByteArray)) := (blk_cell BK248.out 3).trans rfl; have hcz119_4 : wc.cell? ⟨gb248, 4, none⟩ = some (.bool false) := (blk_cell BK248.out 4).trans rfl; have hfz119_0 := blk_frozen BK248.out 0; have hfz119_1 := blk_frozen BK248.out 1; have hfz119_2 := blk_frozen BK248.out 2; have hfz119_3 := blk_frozen BK248.out 3; have hfz119_4 := blk_frozen BK248.out 4) | ((with_reducible refine gate_callee (f := 64) rfl ?_); refine goesL_ (some 112) rfl rfl Tryd.func64 (by kernel_rfl) rfl #[.string ((rdOf ByteArray.empty x6_47 0).extract 1 (rdOf ByteArray.empty x6_47 0).size)] rfl (by (try simp only [List.map_toArray, List.map_cons, List.map_nil]); first | done | rfl | (simp only [List.length_drop, List.length_take]; rfl)) ?_; (with_reducible refine (tmplpiperef09_Split.calls kj69 ((rdOf ByteArray.empty x6_47 0).extract 1 (rdOf ByteArray.empty x6_47 0).size) t269 t270 _ A97.out).mono ?_); rintro e w120 ⟨v271, rfl, ho0, hb⟩; refine ⟨_, rfl, ?_⟩; have n0_ := Aside0.mk (Kd.V_elder' (by (with_reducible repeat (first | apply Kd.V_alloc | apply Kd.V_drewN | apply Kd.V_drew)); exact (Kd.V_mono (Kd.V_far (p := ⟨gb248, 4, none⟩) (Kd.V_far (p := ⟨gb248, 3, none⟩) (Kd.V_mono HO_6.out (fun k_ hk => (⟨hk, hk.2.2⟩ : _ ∧ k_ ≠ gb248))) (fun _ hk => hk.2) (.string ((rdOf ByteArray.empty x6_47 0).extract 1 (rdOf ByteArray.empty x6_47 0).size))) (fun _ hk => hk.2) (.bool true)) (fun _ h_ => h_.1))) (Kd.R_base ho0) hb); have n1_ := Aside0.mk (Kd.R_lower (Kd.R_newM (M := fun k_ => (w.heap.size ≤ k_)) ho0 (below_size (by repeat (first | (with_reducible first | exact HB.out | apply below_alloc | apply pw_below_drewN | apply below_drew1 | refine below_set ?_ GE247.out | refine below_set ?_ GE248.out) | exact HB.out))) (fun k_ h_ => h_)) (below_size (by repeat (first | (with_reducible first | exact HB.out | apply below_alloc | apply pw_below_drewN | apply below_drew1 | refine below_set ?_ GE247.out | refine below_set ?_ GE248.out) | exact HB.out)))); have n2_ := Aside0.mk (blk_below (g := gb247) (o := .cells #[.int .i64 x248000_47, .int .i64 x248001_47, .string x248002_47, .string x248003_47, .bool x248004_47] 140 (0, 0)) (by (with_reducible repeat (first | refine blk_drewN ?_ _ | refine blk_drew ?_ | refine blk_alloc ?_ _)); refine blk_far ?_ NB247_248.out _; (with_reducible repeat (first | refine blk_drewN ?_ _ | refine blk_drew ?_ | refine blk_alloc ?_ _)); refine blk_far ?_ NB247_248.out _; (with_reducible repeat (first | refine blk_drewN ?_ _ | refine blk_drew ?_ | refine blk_alloc ?_ _)); exact BK247.out) hb); have n3_ := Aside0.mk (blk_below (g := gb248) (o := .cells #[.int .i64 x249000_9, .int .i64 0, .string x249002_47, .string ((rdOf ByteArray.empty x6_47 0).extract 1 (rdOf ByteArray.empty x6_47 0).size), .bool true] 140 (0, 0)) (by (with_reducible repeat (first | refine blk_drewN ?_ _ | refine blk_drew ?_ | refine blk_alloc ?_ _)); refine blk_put (cs := #[.int .i64 x249000_9, .int .i64 0, .string x249002_47, .string ((rdOf ByteArray.empty x6_47 0).extract 1 (rdOf ByteArray.empty x6_47 0).size), .bool false]) ?_ 4 _ rfl; (with_reducible repeat (first | refine blk_drewN ?_ _ | refine blk_drew ?_ | refine blk_alloc ?_ _)); refine blk_put (cs := #[.int .i64 x249000_9, .int .i64 0, .string x249002_47, .string (⟨#[]⟩ : ByteArray), .bool false]) ?_ 3 _ rfl; (with_reducible repeat (first | refine blk_drewN ?_ _ | refine blk_drew ?_ | refine blk_alloc ?_ _)); exact BK248.out) hb); have n4_ := Aside0.mk (below_step (by repeat (first | (with_reducible first | exact HB.out | apply below_alloc | apply pw_below_drewN | apply below_drew1 | refine below_set ?_ GE247.out | refine below_set ?_ GE248.out) | exact HB.out)) hb); clear HO_6; clear BK247; clear BK248; clear HB; have HO_6 := n0_; have HO272 := n1_; have BK247 := n2_; have BK248 := n3_; have HB := n4_; clear n0_ n1_ n2_ n3_ n4_; (try clear hb); (try clear hb2); (try clear hk); (try clear hi); (try clear ho0); have q121 : (1 : Int) ≤ ((x6_47.length : Int) : Int) := of_decide_eq_true (by first | (with_reducible assumption) | assumption); obtain ⟨i0121, hi0121, _, hsz121, _⟩ := info_parts info9; have hroom121 : x6_47.length ≤ co117 := (Kd.V_reads' HO_6.out).2.1; have hC121 : Kd.F Kd.string _ _ (some ad266) x6_47.length x6_47 := (Kd.V_at (base := w.heap.size) HO_6.out).2.2; have hcut121 := cut_from (P := Tryd.prog) 114 9 .i64 Tryd.underlying114 hi0121 1 hsz121 (some ad266) x6_47.length co117 1 (by omega) q121; have hr121 := Kd.F_cut (m := (1 : Int).toNat) (c := co117) hC121 (by omega) hroom121; obtain ⟨A121, hA121⟩ : ∃ A1, A1 = (if co117 = (1 : Int).toNat then (some ad266) else ((some ad266) : Option Addr).map (·.add ((1 : Int).toNat * 1))) := ⟨_, rfl⟩; obtain ⟨c121, hc121⟩ : ∃ c1, c1 = co117 - (1 : Int).toNat := ⟨_, rfl⟩; have hy121 : y278.length = x6_47.length - (1 : Int).toNat := (by rw [Ny278.out, List.length_drop] <;> omega); rw [show (x6_47).drop (1 : Int).toNat = y278 from Ny278.out.symm] at hr121; replace hr121 : Kd.F Kd.string _ _ A121 y278.length y278 := (by rw [hA121]; exact hr121); rw [← hy121, ← hA121, ← hc121] at hcut121; have HO282 := Aside0.mk (show Kd.V Kd.string 9 _ w.heap.size _ (.slice A121 y278.length c121) y278 from Kd.V_mk (by rw [hy121, hc121]; exact Nat.sub_le_sub_right hroom121 _) hr121); have HC282 := Aside0.mk (show y278.length ≤ c121 from by rw [hy121, hc121]; exact Nat.sub_le_sub_right hroom121 _); clear hr121 hC121 hroom121 hi0121 hsz121 hc121; have KY121 := Aside0.mk hy121; have KA121 := Aside0.mk hA121; clear hy121 hA121; replace q121 := eq_true q121; have hcz122_0 : w120.cell? ⟨gb248, 0, none⟩ = some (.int .i64 x249000_9) := (blk_cell BK248.out 0).trans rfl; have hcz122_1 : w120.cell? ⟨gb248, 1, none⟩ = some (.int .i64 0) := (blk_cell BK248.out 1).trans rfl; have hcz122_2 : w120.cell? ⟨gb248, 2, none⟩ = some (.string x249002_47) := (blk_cell BK248.out 2).trans rfl; have hcz122_3 : w120.cell? ⟨gb248, 3, none⟩ = some (.string ((rdOf ByteArray.empty x6_47 0).extract 1 (rdOf ByteArray.empty x6_47 0).size)) := (blk_cell BK248.out 3).trans rfl; have hcz122_4 : w120.cell? ⟨gb248, 4, none⟩ = some (.bool true) := (blk_cell BK248.out 4).trans rfl; have hfz122_0 := blk_frozen BK248.out 0; have hfz122_1 := blk_frozen BK248.out 1; have hfz122_2 := blk_frozen BK248.out 2; have hfz122_3 := blk_frozen BK248.out 3; have hfz122_4 := blk_frozen BK248.out 4; have hcz123_0 : w120.cell? ⟨gb247, 0, none⟩ = some (.int .i64 x248000_47) := (blk_cell BK247.out 0).trans rfl; have hcz123_1 : w120.cell? ⟨gb247, 1, none⟩ = some (.int .i64 x248001_47) := (blk_cell BK247.out 1).trans rfl; have hcz123_2 : w120.cell? ⟨gb247, 2, none⟩ = some (.string x248002_47) := (blk_cell BK247.out 2).trans rfl; have hcz123_3 : w120.cell? ⟨gb247, 3, none⟩ = some (.string x248003_47) := (blk_cell BK247.out 3).trans rfl; have hcz123_4 : w120.cell? ⟨gb247, 4, none⟩ = some (.bool x248004_47) := (blk_cell BK247.out 4).trans rfl; have hfz123_0 := blk_frozen BK247.out 0; have hfz123_1 := blk_frozen BK247.out 1; have hfz123_2 := blk_frozen BK247.out 2; have hfz123_3 := blk_frozen BK247.out 3; have hfz123_4 := blk_frozen BK247.out 4))
                    refine bodyPost_ret (results_ctt rfl _ _ gb247 140 #[.int .i64 x249000_9, .int .i64 0, .string x249002_47, .string ((rdOf ByteArray.empty x6_47 0).extract 1 (rdOf ByteArray.empty x6_47 0).size), .bool true] (0, 0) _ rfl (by (with_reducible repeat (first | refine blk_drewN ?_ _ | refine blk_drew ?_ | refine blk_alloc ?_ _)); refine blk_put (cs := #[.int .i64 x249000_9, .int .i64 0, .string x249002_47, .string ((rdOf ByteArray.empty x6_47 0).extract 1 (rdOf ByteArray.empty x6_47 0).size), .bool x248004_47]) ?_ 4 _ rfl; (with_reducible repeat (first | refine blk_drewN ?_ _ | refine blk_drew ?_ | refine blk_alloc ?_ _)); refine blk_put (cs := #[.int .i64 x249000_9, .int .i64 0, .string x249002_47, .string x248003_47, .bool x248004_47]) ?_ 3 _ rfl; (with_reducible repeat (first | refine blk_drewN ?_ _ | refine blk_drew ?_ | refine blk_alloc ?_ _)); refine blk_put (cs := #[.int .i64 x249000_9, .int .i64 0, .string x248002_47, .string x248003_47, .bool x248004_47]) ?_ 2 _ rfl; (with_reducible repeat (first | refine blk_drewN ?_ _ | refine blk_drew ?_ | refine blk_alloc ?_ _)); refine blk_put (cs := #[.int .i64 x249000_9, .int .i64 x248001_47, .string x248002_47, .string x248003_47, .bool x248004_47]) ?_ 1 _ rfl; (with_reducible repeat (first | refine blk_drewN ?_ _ | refine blk_drew ?_ | refine blk_alloc ?_ _)); refine blk_put (cs := #[.int .i64 x248000_47, .int .i64 x248001_47, .string x248002_47, .string x248003_47, .bool x248004_47]) ?_ 0 _ rfl; (with_reducible repeat (first | refine blk_drewN ?_ _ | refine blk_drew ?_ | refine blk_alloc ?_ _)); exact BK247.out) Tryd.underlying140 rfl (by kernel_rfl)) rfl ?_
                    exact ⟨by first | rfl | (simp [errW_none, errW_some] <;> rfl) | (simp [*, errW_none, errW_some] <;> rfl), by repeat (first | (with_reducible first | exact HB.out | apply below_alloc | apply pw_below_drewN | apply below_drew1 | refine below_set ?_ GE247.out | refine below_set ?_ GE248.out) | exact HB.out)⟩
                   ·rw [if_neg c116] at H
                    have c116b0 : decide (0 ≤ x249000_9) = false := decide_eq_false c116
                    clear c116
                    simp only [Option.some.injEq, Prod.mk.injEq] at H
                    obtain ⟨rfl, rfl, rfl, rfl, rfl, rfl, rfl⟩ := H
                    obtain ⟨Ao124, co124, eo124⟩ := Kd.V_slice HO_6.out
                    subst eo124
                    have p266 : 0 ≤ (0 : Int) := (by omega)
                    have q266 : 0 < (x6_47.length : Int) := of_decide_eq_true (by first | (with_reducible assumption) | assumption)
                    obtain ⟨ad266, e266, hx266_0⟩ := Kd.at_string (Kd.V_reads' HO_6.out).2.2 0 p266 q266
                    cases e266
                    have qi266 : (0 < x6_47.length) = True := eq_true (by omega)
                    (try rw [show ((0 : Int)).toNat = 0 from rfl] at hx266_0)
                    (try rw [Addr.add_zero'] at hx266_0)
                    replace p266 := eq_true p266
                    replace q266 := eq_true q266
                    go_wp2_with (first | (go_at_call 87; (with_reducible refine (tmplpiperef11_path.calls (rdOf ByteArray.empty x6_47 0) true _ A94.out).mono ?_); rintro e w' ⟨rfl, ⟨nd, rfl⟩⟩; (try (rw [drewN_self wc]; generalize hq_ : World.drewN wc _ = wc; have n0_ : Aside0 (Kd.V Kd.string 9 wc w.heap.size (fun k_ => (P0_ k_ ∨ w.heap.size ≤ k_) ∧ k_ ≠ gb247 ∧ k_ ≠ gb248) (.slice (some ad266) x6_47.length co124) x6_47) := ⟨by rw [← hq_]; exact (by (with_reducible repeat (first | apply Kd.V_alloc | apply Kd.V_drewN | apply Kd.V_drew)); exact HO_6.out)⟩; have n1_ : Aside0 (wc.heap[gb247]? = some (.cells #[.int .i64 x248000_47, .int .i64 x248001_47, .string x248002_47, .string x248003_47, .bool x248004_47] 140 (0, 0))) := ⟨by rw [← hq_]; exact (by (with_reducible repeat (first | refine blk_drewN ?_ _ | refine blk_drew ?_ | refine blk_alloc ?_ _)); exact BK247.out)⟩; have n2_ : Aside0 (wc.heap[gb248]? = some (.cells #[.int .i64 x249000_9, .int .i64 0, .string x249002_47, .string (⟨#[]⟩ : ByteArray), .bool false] 140 (0, 0))) := ⟨by rw [← hq_]; exact (by (with_reducible repeat (first | refine blk_drewN ?_ _ | refine blk_drew ?_ | refine blk_alloc ?_ _)); exact BK248.out)⟩; have n3_ : Aside0 (Below w.heap.size w wc) := ⟨by rw [← hq_]; exact (by repeat (first | (with_reducible first | exact HB.out | apply below_alloc | apply pw_below_drewN | apply below_drew1 | refine below_set ?_ GE247.out | refine below_set ?_ GE248.out) | exact HB.out))⟩; clear HO_6 BK247 BK248 HB hq_; have HO_6 := n0_; have BK247 := n1_; have BK248 := n2_; have HB := n3_; clear n0_ n1_ n2_ n3_)); have p268 : 0 ≤ (0 : Int) := (by omega); have q268 : 0 < (x6_47.length : Int) := of_decide_eq_true (by first | (with_reducible assumption) | assumption); obtain ⟨ad268, e268, hx268_0⟩ := Kd.at_string (Kd.V_reads' HO_6.out).2.2 0 p268 q268; obtain rfl : ad266 = ad268 := (by injection e268); have qi268 : (0 < x6_47.length) = True := eq_true (by omega); (try rw [show ((0 : Int)).toNat = 0 from rfl] at hx268_0); (try rw [Addr.add_zero'] at hx268_0); replace p268 := eq_true p268; replace q268 := eq_true q268; have hnb125 := NB248_247.out; have hnc125 := NB247_248.out; have hcz126_0 : wc.cell? ⟨gb248, 0, none⟩ = some (.int .i64 x249000_9) := (blk_cell BK248.out 0).trans rfl; have hcz126_1 : wc.cell? ⟨gb248, 1, none⟩ = some (.int .i64 0) := (blk_cell BK248.out 1).trans rfl; have hcz126_2 : wc.cell? ⟨gb248, 2, none⟩ = some (.string x249002_47) := (blk_cell BK248.out 2).trans rfl; have hcz126_3 : wc.cell? ⟨gb248, 3, none⟩ = some (.string (⟨#[]⟩ : ByteArray)) := (blk_cell BK248.out 3).trans rfl; have hcz126_4 : wc.cell? ⟨gb248, 4, none⟩ = some (.bool false) := (blk_cell BK248.out 4).trans rfl; have hfz126_0 := blk_frozen BK248.out 0; have hfz126_1 := blk_frozen BK248.out 1; have hfz126_2 := blk_frozen BK248.out 2; have hfz126_3 := blk_frozen BK248.out 3; have hfz126_4 := blk_frozen BK248.out 4) | ((with_reducible refine gate_callee (f := 64) rfl ?_); refine goesL_ (some 112) rfl rfl Tryd.func64 (by kernel_rfl) rfl #[.string ((rdOf ByteArray.empty x6_47 0).extract 1 (rdOf ByteArray.empty x6_47 0).size)] rfl (by (try simp only [List.map_toArray, List.map_cons, List.map_nil]); first | done | rfl | (simp only [List.length_drop, List.length_take]; rfl)) ?_; (with_reducible refine (tmplpiperef09_Split.calls kj69 ((rdOf ByteArray.empty x6_47 0).extract 1 (rdOf ByteArray.empty x6_47 0).size) t269 t270 _ A97.out).mono ?_); rintro e w127 ⟨v271, rfl, ho0, hb⟩; refine ⟨_, rfl, ?_⟩; have n0_ := Aside0.mk (Kd.V_elder' (by (with_reducible repeat (first | apply Kd.V_alloc | apply Kd.V_drewN | apply Kd.V_drew)); exact (Kd.V_mono (Kd.V_far (p := ⟨gb248, 4, none⟩) (Kd.V_far (p := ⟨gb248, 3, none⟩) (Kd.V_mono HO_6.out (fun k_ hk => (⟨hk, hk.2.2⟩ : _ ∧ k_ ≠ gb248))) (fun _ hk => hk.2) (.string ((rdOf ByteArray.empty x6_47 0).extract 1 (rdOf ByteArray.empty x6_47 0).size))) (fun _ hk => hk.2) (.bool true)) (fun _ h_ => h_.1))) (Kd.R_base ho0) hb); have n1_ := Aside0.mk (Kd.R_lower (Kd.R_newM (M := fun k_ => (w.heap.size ≤ k_)) ho0 (below_size (by repeat (first | (with_reducible first | exact HB.out | apply below_alloc | apply pw_below_drewN | apply below_drew1 | refine below_set ?_ GE247.out | refine below_set ?_ GE248.out) | exact HB.out))) (fun k_ h_ => h_)) (below_size (by repeat (first | (with_reducible first | exact HB.out | apply below_alloc | apply pw_below_drewN | apply below_drew1 | refine below_set ?_ GE247.out | refine below_set ?_ GE248.out) | exact HB.out)))); have n2_ := Aside0.mk (blk_below (g := gb247) (o := .cells #[.int .i64 x248000_47, .int .i64 x248001_47, .string x248002_47, .string x248003_47, .bool x248004_47] 140 (0, 0)) (by (with_reducible repeat (first | refine blk_drewN ?_ _ | refine blk_drew ?_ | refine blk_alloc ?_ _)); refine blk_far ?_ NB247_248.out _; (with_reducible repeat (first | refine blk_drewN ?_ _ | refine blk_drew ?_ | refine blk_alloc ?_ _)); refine blk_far ?_ NB247_248.out _; (with_reducible repeat (first | refine blk_drewN ?_ _ | refine blk_drew ?_ | refine blk_alloc ?_ _)); exact BK247.out) hb); have n3_ := Aside0.mk (blk_below (g := gb248) (o := .cells #[.int .i64 x249000_9, .int .i64 0, .string x249002_47, .string ((rdOf ByteArray.empty x6_47 0).extract 1 (rdOf ByteArray.empty x6_47 0).size), .bool true] 140 (0, 0)) (by (with_reducible repeat (first | refine blk_drewN ?_ _ | refine blk_drew ?_ | refine blk_alloc ?_ _)); refine blk_put (cs := #[.int .i64 x249000_9, .int .i64 0, .string x249002_47, .string ((rdOf ByteArray.empty x6_47 0).extract 1 (rdOf ByteArray.empty x6_47 0).size), .bool false]) ?_ 4 _ rfl; (with_reducible repeat (first | refine blk_drewN ?_ _ | refine blk_drew ?_ | refine blk_alloc ?_ _)); refine blk_put (cs := #[.int .i64 x249000_9, .int .i64 0, .string x249002_47, .string (⟨#[]⟩ : ByteArray), .bool false]) ?_ 3 _ rfl; (with_reducible repeat (first | refine blk_drewN ?_ _ | refine blk_drew ?_ | refine blk_alloc ?_ _)); exact BK248.out) hb); have n4_ := Aside0.mk (below_step (by repeat (first | (with_reducible first | exact HB.out | apply below_alloc | apply pw_below_drewN | apply below_drew1 | refine below_set ?_ GE247.out | refine below_set ?_ GE248.out) | exact HB.out)) hb); clear HO_6; clear BK247; clear BK248; clear HB; have HO_6 := n0_; have HO272 := n1_; have BK247 := n2_; have BK248 := n3_; have HB := n4_; clear n0_ n1_ n2_ n3_ n4_; (try clear hb); (try clear hb2); (try clear hk); (try clear hi); (try clear ho0); have q128 : (1 : Int) ≤ ((x6_47.length : Int) : Int) := of_decide_eq_true (by first | (with_reducible assumption) | assumption); obtain ⟨i0128, hi0128, _, hsz128, _⟩ := info_parts info9; have hroom128 : x6_47.length ≤ co124 := (Kd.V_reads' HO_6.out).2.1; have hC128 : Kd.F Kd.string _ _ (some ad266) x6_47.length x6_47 := (Kd.V_at (base := w.heap.size) HO_6.out).2.2; have hcut128 := cut_from (P := Tryd.prog) 114 9 .i64 Tryd.underlying114 hi0128 1 hsz128 (some ad266) x6_47.length co124 1 (by omega) q128; have hr128 := Kd.F_cut (m := (1 : Int).toNat) (c := co124) hC128 (by omega) hroom128; obtain ⟨A128, hA128⟩ : ∃ A1, A1 = (if co124 = (1 : Int).toNat then (some ad266) else ((some ad266) : Option Addr).map (·.add ((1 : Int).toNat * 1))) := ⟨_, rfl⟩; obtain ⟨c128, hc128⟩ : ∃ c1, c1 = co124 - (1 : Int).toNat := ⟨_, rfl⟩; have hy128 : y278.length = x6_47.length - (1 : Int).toNat := (by rw [Ny278.out, List.length_drop] <;> omega); rw [show (x6_47).drop (1 : Int).toNat = y278 from Ny278.out.symm] at hr128; replace hr128 : Kd.F Kd.string _ _ A128 y278.length y278 := (by rw [hA128]; exact hr128); rw [← hy128, ← hA128, ← hc128] at hcut128; have HO282 := Aside0.mk (show Kd.V Kd.string 9 _ w.heap.size _ (.slice A128 y278.length c128) y278 from Kd.V_mk (by rw [hy128, hc128]; exact Nat.sub_le_sub_right hroom128 _) hr128); have HC282 := Aside0.mk (show y278.length ≤ c128 from by rw [hy128, hc128]; exact Nat.sub_le_sub_right hroom128 _); clear hr128 hC128 hroom128 hi0128 hsz128 hc128; have KY128 := Aside0.mk hy128; have KA128 := Aside0.mk hA128; clear hy128 hA128; replace q128 := eq_true q128; have hcz129_0 : w127.cell? ⟨gb248, 0, none⟩ = some (.int .i64 x249000_9) := (blk_cell BK248.out 0).trans rfl; have hcz129_1 : w127.cell? ⟨gb248, 1, none⟩ = some (.int .i64 0) := (blk_cell BK248.out 1).trans rfl; have hcz129_2 : w127.cell? ⟨gb248, 2, none⟩ = some (.string x249002_47) := (blk_cell BK248.out 2).trans rfl; have hcz129_3 : w127.cell? ⟨gb248, 3, none⟩ = some (.string ((rdOf ByteArray.empty x6_47 0).extract 1 (rdOf ByteArray.empty x6_47 0).size)) := (blk_cell BK248.out 3).trans rfl; have hcz129_4 : w127.cell? ⟨gb248, 4, none⟩ = some (.bool true) := (blk_cell BK248.out 4).trans rfl; have hfz129_0 := blk_frozen BK248.out 0; have hfz129_1 := blk_frozen BK248.out 1; have hfz129_2 := blk_frozen BK248.out 2; have hfz129_3 := blk_frozen BK248.out 3; have hfz129_4 := blk_frozen BK248.out 4; have hcz130_0 : w127.cell? ⟨gb247, 0, none⟩ = some (.int .i64 x248000_47) := (blk_cell BK247.out 0).trans rfl; have hcz130_1 : w127.cell? ⟨gb247, 1, none⟩ = some (.int .i64 x248001_47) := (blk_cell BK247.out 1).trans rfl; have hcz130_2 : w127.cell? ⟨gb247, 2, none⟩ = some (.string x248002_47) := (blk_cell BK247.out 2).trans rfl; have hcz130_3 : w127.cell? ⟨gb247, 3, none⟩ = some (.string x248003_47) := (blk_cell BK247.out 3).trans rfl; have hcz130_4 : w127.cell? ⟨gb247, 4, none⟩ = some (.bool x248004_47) := (blk_cell BK247.out 4).trans rfl; have hfz130_0 := blk_frozen BK247.out 0; have hfz130_1 := blk_frozen BK247.out 1; have hfz130_2 := blk_frozen BK247.out 2; have hfz130_3 := blk_frozen BK247.out 3; have hfz130_4 := blk_frozen BK247.out 4))
                    refine bodyPost_ret (results_ctt rfl _ _ gb247 140 #[.int .i64 x249000_9, .int .i64 0, .string x249002_47, .string ((rdOf ByteArray.empty x6_47 0).extract 1 (rdOf ByteArray.empty x6_47 0).size), .bool true] (0, 0) _ rfl (by (with_reducible repeat (first | refine blk_drewN ?_ _ | refine blk_drew ?_ | refine blk_alloc ?_ _)); refine blk_put (cs := #[.int .i64 x249000_9, .int .i64 0, .string x249002_47, .string ((rdOf ByteArray.empty x6_47 0).extract 1 (rdOf ByteArray.empty x6_47 0).size), .bool x248004_47]) ?_ 4 _ rfl; (with_reducible repeat (first | refine blk_drewN ?_ _ | refine blk_drew ?_ | refine blk_alloc ?_ _)); refine blk_put (cs := #[.int .i64 x249000_9, .int .i64 0, .string x249002_47, .string x248003_47, .bool x248004_47]) ?_ 3 _ rfl; (with_reducible repeat (first | refine blk_drewN ?_ _ | refine blk_drew ?_ | refine blk_alloc ?_ _)); refine blk_put (cs := #[.int .i64 x249000_9, .int .i64 0, .string x248002_47, .string x248003_47, .bool x248004_47]) ?_ 2 _ rfl; (with_reducible repeat (first | refine blk_drewN ?_ _ | refine blk_drew ?_ | refine blk_alloc ?_ _)); refine blk_put (cs := #[.int .i64 x249000_9, .int .i64 x248001_47, .string x248002_47, .string x248003_47, .bool x248004_47]) ?_ 1 _ rfl; (with_reducible repeat (first | refine blk_drewN ?_ _ | refine blk_drew ?_ | refine blk_alloc ?_ _)); refine blk_put (cs := #[.int .i64 x248000_47, .int .i64 x248001_47, .string x248002_47, .string x248003_47, .bool x248004_47]) ?_ 0 _ rfl; (with_reducible repeat (first | refine blk_drewN ?_ _ | refine blk_drew ?_ | refine blk_alloc ?_ _)); exact BK247.out) Tryd.underlying140 rfl (by kernel_rfl)) rfl ?_
                    exact ⟨by first | rfl | (simp [errW_none, errW_some] <;> rfl) | (simp [*, errW_none, errW_some] <;> rfl), by repeat (first | (with_reducible first | exact HB.out | apply below_alloc | apply pw_below_drewN | apply below_drew1 | refine below_set ?_ GE247.out | refine below_set ?_ GE248.out) | exact HB.out)⟩
                  ·rw [if_neg c115] at H
                   exact absurd H (by simp)
                ·rw [if_neg c96] at H
                 exact absurd H (by simp)
               ·replace c95 := Bool.eq_false_iff.mpr c95
                subst c95
                have H1 : (some (x249000_9, 0, x249002_47, (⟨#[]⟩ : ByteArray), false, false, false)) = some (r1, r2, r3, r4, r5, r6, r7) := by rw [if_neg (show ¬ (false = true) by decide)] at H; exact H
                clear H
                have H := H1
                clear H1
                simp only [Option.some.injEq, Prod.mk.injEq] at H
                obtain ⟨rfl, rfl, rfl, rfl, rfl, rfl, rfl⟩ := H
                obtain ⟨Ao131, co131, eo131⟩ := Kd.V_slice HO_6.out
                subst eo131
                have p266 : 0 ≤ (0 : Int) := (by omega)
                have q266 : 0 < (x6_47.length : Int) := of_decide_eq_true (by first | (with_reducible assumption) | assumption)
                obtain ⟨ad266, e266, hx266_0⟩ := Kd.at_string (Kd.V_reads' HO_6.out).2.2 0 p266 q266
                cases e266
                have qi266 : (0 < x6_47.length) = True := eq_true (by omega)
                (try rw [show ((0 : Int)).toNat = 0 from rfl] at hx266_0)
                (try rw [Addr.add_zero'] at hx266_0)
                replace p266 := eq_true p266
                replace q266 := eq_true q266
                go_wp2_with (first | (go_at_call 87; (with_reducible refine (tmplpiperef11_path.calls (rdOf ByteArray.empty x6_47 0) false _ A94.out).mono ?_); rintro e w' ⟨rfl, ⟨nd, rfl⟩⟩; (try (rw [drewN_self wc]; generalize hq_ : World.drewN wc _ = wc; have n0_ : Aside0 (Kd.V Kd.string 9 wc w.heap.size (fun k_ => (P0_ k_ ∨ w.heap.size ≤ k_) ∧ k_ ≠ gb247 ∧ k_ ≠ gb248) (.slice (some ad266) x6_47.length co131) x6_47) := ⟨by rw [← hq_]; exact (by (with_reducible repeat (first | apply Kd.V_alloc | apply Kd.V_drewN | apply Kd.V_drew)); exact HO_6.out)⟩; have n1_ : Aside0 (wc.heap[gb247]? = some (.cells #[.int .i64 x248000_47, .int .i64 x248001_47, .string x248002_47, .string x248003_47, .bool x248004_47] 140 (0, 0))) := ⟨by rw [← hq_]; exact (by (with_reducible repeat (first | refine blk_drewN ?_ _ | refine blk_drew ?_ | refine blk_alloc ?_ _)); exact BK247.out)⟩; have n2_ : Aside0 (wc.heap[gb248]? = some (.cells #[.int .i64 x249000_9, .int .i64 0, .string x249002_47, .string (⟨#[]⟩ : ByteArray), .bool false] 140 (0, 0))) := ⟨by rw [← hq_]; exact (by (with_reducible repeat (first | refine blk_drewN ?_ _ | refine blk_drew ?_ | refine blk_alloc ?_ _)); exact BK248.out)⟩; have n3_ : Aside0 (Below w.heap.size w wc) := ⟨by rw [← hq_]; exact (by repeat (first | (with_reducible first | exact HB.out | apply below_alloc | apply pw_below_drewN | apply below_drew1 | refine below_set ?_ GE247.out | refine below_set ?_ GE248.out) | exact HB.out))⟩; clear HO_6 BK247 BK248 HB hq_; have HO_6 := n0_; have BK247 := n1_; have BK248 := n2_; have HB := n3_; clear n0_ n1_ n2_ n3_)); have hnb132 := NB248_247.out; have hnc132 := NB247_248.out; have hcz133_0 : wc.cell? ⟨gb248, 0, none⟩ = some (.int .i64 x249000_9) := (blk_cell BK248.out 0).trans rfl; have hcz133_1 : wc.cell? ⟨gb248, 1, none⟩ = some (.int .i64 0) := (blk_cell BK248.out 1).trans rfl; have hcz133_2 : wc.cell? ⟨gb248, 2, none⟩ = some (.string x249002_47) := (blk_cell BK248.out 2).trans rfl; have hcz133_3 : wc.cell? ⟨gb248, 3, none⟩ = some (.string (⟨#[]⟩ : ByteArray)) := (blk_cell BK248.out 3).trans rfl; have hcz133_4 : wc.cell? ⟨gb248, 4, none⟩ = some (.bool false) := (blk_cell BK248.out 4).trans rfl; have hfz133_0 := blk_frozen BK248.out 0; have hfz133_1 := blk_frozen BK248.out 1; have hfz133_2 := blk_frozen BK248.out 2; have hfz133_3 := blk_frozen BK248.out 3; have hfz133_4 := blk_frozen BK248.out 4; have hcz134_0 : wc.cell? ⟨gb247, 0, none⟩ = some (.int .i64 x248000_47) := (blk_cell BK247.out 0).trans rfl; have hcz134_1 : wc.cell? ⟨gb247, 1, none⟩ = some (.int .i64 x248001_47) := (blk_cell BK247.out 1).trans rfl; have hcz134_2 : wc.cell? ⟨gb247, 2, none⟩ = some (.string x248002_47) := (blk_cell BK247.out 2).trans rfl; have hcz134_3 : wc.cell? ⟨gb247, 3, none⟩ = some (.string x248003_47) := (blk_cell BK247.out 3).trans rfl; have hcz134_4 : wc.cell? ⟨gb247, 4, none⟩ = some (.bool x248004_47) := (blk_cell BK247.out 4).trans rfl; have hfz134_0 := blk_frozen BK247.out 0; have hfz134_1 := blk_frozen BK247.out 1; have hfz134_2 := blk_frozen BK247.out 2; have hfz134_3 := blk_frozen BK247.out 3; have hfz134_4 := blk_frozen BK247.out 4))
                refine bodyPost_ret (results_ctt rfl _ _ gb247 140 #[.int .i64 x249000_9, .int .i64 0, .string x249002_47, .string (⟨#[]⟩ : ByteArray), .bool false] (0, 0) _ rfl (by (with_reducible repeat (first | refine blk_drewN ?_ _ | refine blk_drew ?_ | refine blk_alloc ?_ _)); refine blk_put (cs := #[.int .i64 x249000_9, .int .i64 0, .string x249002_47, .string (⟨#[]⟩ : ByteArray), .bool x248004_47]) ?_ 4 _ rfl; (with_reducible repeat (first | refine blk_drewN ?_ _ | refine blk_drew ?_ | refine blk_alloc ?_ _)); refine blk_put (cs := #[.int .i64 x249000_9, .int .i64 0, .string x249002_47, .string x248003_47, .bool x248004_47]) ?_ 3 _ rfl; (with_reducible repeat (first | refine blk_drewN ?_ _ | refine blk_drew ?_ | refine blk_alloc ?_ _)); refine blk_put (cs := #[.int .i64 x249000_9, .int .i64 0, .string x248002_47, .string x248003_47, .bool x248004_47]) ?_ 2 _ rfl; (with_reducible repeat (first | refine blk_drewN ?_ _ | refine blk_drew ?_ | refine blk_alloc ?_ _)); refine blk_put (cs := #[.int .i64 x249000_9, .int .i64 x248001_47, .string x248002_47, .string x248003_47, .bool x248004_47]) ?_ 1 _ rfl; (with_reducible repeat (first | refine blk_drewN ?_ _ | refine blk_drew ?_ | refine blk_alloc ?_ _)); refine blk_put (cs := #[.int .i64 x248000_47, .int .i64 x248001_47, .string x248002_47, .string x248003_47, .bool x248004_47]) ?_ 0 _ rfl; (with_reducible repeat (first | refine blk_drewN ?_ _ | refine blk_drew ?_ | refine blk_alloc ?_ _)); exact BK247.out) Tryd.underlying140 rfl (by kernel_rfl)) rfl ?_
                exact ⟨by first | rfl | (simp [errW_none, errW_some] <;> rfl) | (simp [*, errW_none, errW_some] <;> rfl), by repeat (first | (with_reducible first | exact HB.out | apply below_alloc | apply pw_below_drewN | apply below_drew1 | refine below_set ?_ GE247.out | refine below_set ?_ GE248.out) | exact HB.out)⟩
              ·rw [if_neg c93] at H
               exact absurd H (by simp)
            ·replace c87 := Bool.eq_false_iff.mpr c87
             subst c87
             have H1 : (if x249000_9 ≥ 0 then (some (x249000_9, 0, x249002_47, (⟨#[]⟩ : ByteArray), false, ((x6_47.length : Int) == 0), x7_47)) else (some (x249000_9, 0, x249002_47, (⟨#[]⟩ : ByteArray), false, false, x7_47))) = some (r1, r2, r3, r4, r5, r6, r7) := by rw [if_neg (show ¬ (false = true) by decide)] at H; exact H
             clear H
             have H := H1
             clear H1
             by_cases c135 : x249000_9 ≥ 0
             ·rw [if_pos c135] at H
              have c135b0 : decide (0 ≤ x249000_9) = true := decide_eq_true c135
              clear c135
              simp only [Option.some.injEq, Prod.mk.injEq] at H
              obtain ⟨rfl, rfl, rfl, rfl, rfl, rfl, rfl⟩ := H
              have hnb136 := NB248_247.out
              have hnc136 := NB247_248.out
              have hcz137_0 : wc.cell? ⟨gb248, 0, none⟩ = some (.int .i64 x249000_9) := (blk_cell BK248.out 0).trans rfl
              have hcz137_1 : wc.cell? ⟨gb248, 1, none⟩ = some (.int .i64 0) := (blk_cell BK248.out 1).trans rfl
              have hcz137_2 : wc.cell? ⟨gb248, 2, none⟩ = some (.string x249002_47) := (blk_cell BK248.out 2).trans rfl
              have hcz137_3 : wc.cell? ⟨gb248, 3, none⟩ = some (.string (⟨#[]⟩ : ByteArray)) := (blk_cell BK248.out 3).trans rfl
              have hcz137_4 : wc.cell? ⟨gb248, 4, none⟩ = some (.bool false) := (blk_cell BK248.out 4).trans rfl
              have hfz137_0 := blk_frozen BK248.out 0
              have hfz137_1 := blk_frozen BK248.out 1
              have hfz137_2 := blk_frozen BK248.out 2
              have hfz137_3 := blk_frozen BK248.out 3
              have hfz137_4 := blk_frozen BK248.out 4
              obtain ⟨Ao138, co138, eo138⟩ := Kd.V_slice HO_6.out
              subst eo138
              have hcz139_0 : wc.cell? ⟨gb247, 0, none⟩ = some (.int .i64 x248000_47) := (blk_cell BK247.out 0).trans rfl
              have hcz139_1 : wc.cell? ⟨gb247, 1, none⟩ = some (.int .i64 x248001_47) := (blk_cell BK247.out 1).trans rfl
              have hcz139_2 : wc.cell? ⟨gb247, 2, none⟩ = some (.string x248002_47) := (blk_cell BK247.out 2).trans rfl
              have hcz139_3 : wc.cell? ⟨gb247, 3, none⟩ = some (.string x248003_47) := (blk_cell BK247.out 3).trans rfl
              have hcz139_4 : wc.cell? ⟨gb247, 4, none⟩ = some (.bool x248004_47) := (blk_cell BK247.out 4).trans rfl
              have hfz139_0 := blk_frozen BK247.out 0
              have hfz139_1 := blk_frozen BK247.out 1
              have hfz139_2 := blk_frozen BK247.out 2
              have hfz139_3 := blk_frozen BK247.out 3
              have hfz139_4 := blk_frozen BK247.out 4
              go_wp2
              refine bodyPost_ret (results_ctt rfl _ _ gb247 140 #[.int .i64 x249000_9, .int .i64 0, .string x249002_47, .string (⟨#[]⟩ : ByteArray), .bool false] (0, 0) _ rfl (by (with_reducible repeat (first | refine blk_drewN ?_ _ | refine blk_drew ?_ | refine blk_alloc ?_ _)); refine blk_put (cs := #[.int .i64 x249000_9, .int .i64 0, .string x249002_47, .string (⟨#[]⟩ : ByteArray), .bool x248004_47]) ?_ 4 _ rfl; (with_reducible repeat (first | refine blk_drewN ?_ _ | refine blk_drew ?_ | refine blk_alloc ?_ _)); refine blk_put (cs := #[.int .i64 x249000_9, .int .i64 0, .string x249002_47, .string x248003_47, .bool x248004_47]) ?_ 3 _ rfl; (with_reducible repeat (first | refine blk_drewN ?_ _ | refine blk_drew ?_ | refine blk_alloc ?_ _)); refine blk_put (cs := #[.int .i64 x249000_9, .int .i64 0, .string x248002_47, .string x248003_47, .bool x248004_47]) ?_ 2 _ rfl; (with_reducible repeat (first | refine blk_drewN ?_ _ | refine blk_drew ?_ | refine blk_alloc ?_ _)); refine blk_put (cs := #[.int .i64 x249000_9, .int .i64 x248001_47, .string x248002_47, .string x248003_47, .bool x248004_47]) ?_ 1 _ rfl; (with_reducible repeat (first | refine blk_drewN ?_ _ | refine blk_drew ?_ | refine blk_alloc ?_ _)); refine blk_put (cs := #[.int .i64 x248000_47, .int .i64 x248001_47, .string x248002_47, .string x248003_47, .bool x248004_47]) ?_ 0 _ rfl; (with_reducible repeat (first | refine blk_drewN ?_ _ | refine blk_drew ?_ | refine blk_alloc ?_ _)); exact BK247.out) Tryd.underlying140 rfl (by kernel_rfl)) rfl ?_
              exact ⟨by first | rfl | (simp [errW_none, errW_some] <;> rfl) | (simp [*, errW_none, errW_some] <;> rfl), by repeat (first | (with_reducible first | exact HB.out | apply below_alloc | apply pw_below_drewN | apply below_drew1 | refine below_set ?_ GE247.out | refine below_set ?_ GE248.out) | exact HB.out)⟩
             ·rw [if_neg c135] at H
              have c135b0 : decide (0 ≤ x249000_9) = false := decide_eq_false c135
              clear c135
              simp only [Option.some.injEq, Prod.mk.injEq] at H
              obtain ⟨rfl, rfl, rfl, rfl, rfl, rfl, rfl⟩ := H
              have hnb140 := NB248_247.out
              have hnc140 := NB247_248.out
              have hcz141_0 : wc.cell? ⟨gb248, 0, none⟩ = some (.int .i64 x249000_9) := (blk_cell BK248.out 0).trans rfl
              have hcz141_1 : wc.cell? ⟨gb248, 1, none⟩ = some (.int .i64 0) := (blk_cell BK248.out 1).trans rfl
              have hcz141_2 : wc.cell? ⟨gb248, 2, none⟩ = some (.string x249002_47) := (blk_cell BK248.out 2).trans rfl
              have hcz141_3 : wc.cell? ⟨gb248, 3, none⟩ = some (.string (⟨#[]⟩ : ByteArray)) := (blk_cell BK248.out 3).trans rfl
              have hcz141_4 : wc.cell? ⟨gb248, 4, none⟩ = some (.bool false) := (blk_cell BK248.out 4).trans rfl
              have hfz141_0 := blk_frozen BK248.out 0
              have hfz141_1 := blk_frozen BK248.out 1
              have hfz141_2 := blk_frozen BK248.out 2
              have hfz141_3 := blk_frozen BK248.out 3
              have hfz141_4 := blk_frozen BK248.out 4
              have hcz142_0 : wc.cell? ⟨gb247, 0, none⟩ = some (.int .i64 x248000_47) := (blk_cell BK247.out 0).trans rfl
              have hcz142_1 : wc.cell? ⟨gb247, 1, none⟩ = some (.int .i64 x248001_47) := (blk_cell BK247.out 1).trans rfl
              have hcz142_2 : wc.cell? ⟨gb247, 2, none⟩ = some (.string x248002_47) := (blk_cell BK247.out 2).trans rfl
              have hcz142_3 : wc.cell? ⟨gb247, 3, none⟩ = some (.string x248003_47) := (blk_cell BK247.out 3).trans rfl
              have hcz142_4 : wc.cell? ⟨gb247, 4, none⟩ = some (.bool x248004_47) := (blk_cell BK247.out 4).trans rfl
              have hfz142_0 := blk_frozen BK247.out 0
              have hfz142_1 := blk_frozen BK247.out 1
              have hfz142_2 := blk_frozen BK247.out 2
              have hfz142_3 := blk_frozen BK247.out 3
              have hfz142_4 := blk_frozen BK247.out 4
              go_wp2
              refine bodyPost_ret (results_ctt rfl _ _ gb247 140 #[.int .i64 x249000_9, .int .i64 0, .string x249002_47, .string (⟨#[]⟩ : ByteArray), .bool false] (0, 0) _ rfl (by (with_reducible repeat (first | refine blk_drewN ?_ _ | refine blk_drew ?_ | refine blk_alloc ?_ _)); refine blk_put (cs := #[.int .i64 x249000_9, .int .i64 0, .string x249002_47, .string (⟨#[]⟩ : ByteArray), .bool x248004_47]) ?_ 4 _ rfl; (with_reducible repeat (first | refine blk_drewN ?_ _ | refine blk_drew ?_ | refine blk_alloc ?_ _)); refine blk_put (cs := #[.int .i64 x249000_9, .int .i64 0, .string x249002_47, .string x248003_47, .bool x248004_47]) ?_ 3 _ rfl; (with_reducible repeat (first | refine blk_drewN ?_ _ | refine blk_drew ?_ | refine blk_alloc ?_ _)); refine blk_put (cs := #[.int .i64 x249000_9, .int .i64 0, .string x248002_47, .string x248003_47, .bool x248004_47]) ?_ 2 _ rfl; (with_reducible repeat (first | refine blk_drewN ?_ _ | refine blk_drew ?_ | refine blk_alloc ?_ _)); refine blk_put (cs := #[.int .i64 x249000_9, .int .i64 x248001_47, .string x248002_47, .string x248003_47, .bool x248004_47]) ?_ 1 _ rfl; (with_reducible repeat (first | refine blk_drewN ?_ _ | refine blk_drew ?_ | refine blk_alloc ?_ _)); refine blk_put (cs := #[.int .i64 x248000_47, .int .i64 x248001_47, .string x248002_47, .string x248003_47, .bool x248004_47]) ?_ 0 _ rfl; (with_reducible repeat (first | refine blk_drewN ?_ _ | refine blk_drew ?_ | refine blk_alloc ?_ _)); exact BK247.out) Tryd.underlying140 rfl (by kernel_rfl)) rfl ?_
              exact ⟨by first | rfl | (simp [errW_none, errW_some] <;> rfl) | (simp [*, errW_none, errW_some] <;> rfl), by repeat (first | (with_reducible first | exact HB.out | apply below_alloc | apply pw_below_drewN | apply below_drew1 | refine below_set ?_ GE247.out | refine below_set ?_ GE248.out) | exact HB.out)⟩
   ·rw [if_neg c9] at H
    exact absurd H (by simp)
  ·rw [if_neg c8] at H
   exact absurd H (by simp)
end Go.Proofs.YtkpnfejfbmandaaDoor.Px
