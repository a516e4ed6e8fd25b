/- Contract of value.Split. -/
import Derived.Test.YtgdpojleejdfaaaDoorNf
import Derived.Test.YtgdpojleejdfaaaDoorShelf
namespace Go.Proofs.YtgdpojleejdfaaaDoor.Px
open Go.RowKit Go.Proofs.YtgdpojleejdfaaaDoorW.PrintWords Go.Proofs.YtgdpojleejdfaaaDoorW.PrintLast Go.Proofs.YtgdpojleejdfaaaDoorW.PrintMore
set_option linter.unusedVariables false
set_option linter.unusedSimpArgs false

/-- What the package-level variables hold: lex.shapes, as the program's text lays it; bytealg.MaxLen, whatever number it is. -/
structure Glob (w : World) : Prop where
  mx : ∃ m, w.cell? ⟨1, 0, none⟩ = some (.int .i64 m)
theorem Glob.below {w w1 : World} (h : Glob w) (hb : Below w.heap.size w w1) : Glob w1 := by
  obtain ⟨m, hm⟩ := h.mx
  exact ⟨⟨m, (hb.cell (World.block_lt_of_cell? _ _ hm)).trans hm⟩⟩

theorem split_len (s : ByteArray) : (Lib.splitB ⟨#[46]⟩ 0 (Lib.countB s ⟨#[46]⟩) s).length = Lib.countB s ⟨#[46]⟩ + 1 := Lib.splitB_all _ (by decide) 0 _ s rfl
theorem split_data (s : ByteArray) : (Lib.splitB ⟨#[46]⟩ 0 (Lib.countB s ⟨#[46]⟩) s).map (·.data.toList) = Lib.split s.data.toList [46] := Lib.splitB_data _ 0 _ s

def pathE (s : ByteArray) : Int := if pathL s.data.toList = true then 0 else 11
theorem pathE_t {s : ByteArray} (h : pathL s.data.toList = true) : pathE s = 0 := if_pos h
theorem pathE_f {s : ByteArray} (h : pathL s.data.toList = false) : pathE s = 11 := if_neg (by rw [h]; decide)
set_option maxHeartbeats 1000000 in
set_option maxRecDepth 100000 in
theorem split_any (s : ByteArray) (w : World) (hs : s.size ≤ 65536) (hG : Glob w) :
    Calls Tryd.prog 65 #[.string s] w fun e w' => ∃ v, e = .returned (.tuple #[v, .int .i64 (pathE s)]) ∧ Below w.heap.size w w' := by
  by_cases h0 : s.toList = []
  · have e1 : (s.toList = []) = True := eq_true h0
    have hn := pathE_t (s := s) (by rw [← ByteArray.toList_eq, h0]; rfl)
    go_enter Tryd.func65, Tryd.ntmps65
    go_wp2
    go_ret2
    exact ⟨_, by rw [hn]; rfl, Below.refl _ _⟩
  have e2 : s.toList.isEmpty = false := by simp [h0]
  have hP : pathL s.data.toList = (decide ((Lib.split s.data.toList [46]).length ≤ 8) && (Lib.split s.data.toList [46]).all nameL) := by
    unfold pathL
    rw [← ByteArray.toList_eq, e2, Bool.false_or]
  obtain ⟨m, hm⟩ := hG.mx
  have hsp := Tryd.strings_Split s ⟨#[46]⟩ m w (by omega) hm (by decide)
  have hL := split_len s
  have hD := split_data s
  rw [← hL] at hsp
  generalize Lib.splitB ⟨#[46]⟩ 0 (Lib.countB s ⟨#[46]⟩) s = xs at *
  have hmx : xs.length ≤ 70000 := by rw [hL]; have := Lib.countB_le ⟨#[46]⟩ (by decide) _ s (Nat.le_refl _); omega
  clear hL
  replace hP := Aside0.mk hP
  replace hD := Aside0.mk hD
  replace hsp := Aside0.mk hsp
  clear h0 hm
  go_enter Tryd.func65, Tryd.ntmps65
  go_wp2_with fail
  refine hsp.out.mono ?_
  rintro e w1 ⟨rfl, rfl⟩
  have hO : Kd.R Kd.string 9 (w.alloc (.cells (xs.map Value.string).toArray 9)) w.heap.size (fun _ => True) (.slice (some ⟨w.heap.size, 0, none⟩) xs.length xs.length) xs :=
    Kd.R_of_own (own_lit_of (enc := Value.string) w w.heap.size 9 xs (Nat.le_refl _) (by omega)) (fun _ _ => trivial)
  have hC := Aside0.mk (Kd.R_reads' hO).2.2
  have hB := Aside0.mk ((Below.refl w.heap.size w).alloc (Nat.le_refl _) (.cells (xs.map Value.string).toArray 9))
  clear hO hsp
  generalize w.alloc (.cells (xs.map Value.string).toArray 9) = w1 at *
  by_cases h8 : xs.length ≤ 8
  · have h8b : decide ((8 : Int) < (xs.length : Int)) = false := decide_eq_false (by omega)
    go_wp2_with fail
    refine (containsFunc_any xs _ _ _ hC.out (Nat.le_refl _)).mono ?_
    rintro e w2 ⟨rfl, HB2⟩
    have HB := Aside0.mk (below_step hB.out HB2)
    clear HB2 hB hC
    cases hb : (xs.map (·.data.toList)).all nameL with
    | true =>
      have hR := Aside0.mk (show pathE s = 0 from pathE_t <| by rw [hP.out, ← hD.out, hb, List.length_map, decide_eq_true h8]; rfl)
      go_wp2
      go_ret2
      exact ⟨_, by rw [hR.out]; rfl, HB.out⟩
    | false =>
      have hR := Aside0.mk (show pathE s = 11 from pathE_f <| by rw [hP.out, ← hD.out, hb, Bool.and_false])
      go_wp2
      go_ret2
      exact ⟨_, by rw [hR.out]; rfl, HB.out⟩
  · have h8b : decide ((8 : Int) < (xs.length : Int)) = true := decide_eq_true (by omega)
    have hR := Aside0.mk (show pathE s = 11 from pathE_f <| by rw [hP.out, ← hD.out, List.length_map, decide_eq_false h8, Bool.false_and])
    go_wp2
    go_ret2
    exact ⟨_, by rw [hR.out]; rfl, hB.out⟩
end Go.Proofs.YtgdpojleejdfaaaDoor.Px
