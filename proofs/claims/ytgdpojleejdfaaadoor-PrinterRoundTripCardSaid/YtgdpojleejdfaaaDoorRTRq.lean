import Derived.Test.YtgdpojleejdfaaaDoorRTRn
import Derived.Test.YtgdpojleejdfaaaDoorRTMr
/- Contract of the reference's Parse. -/
namespace Go.Proofs.YtgdpojleejdfaaaDoor.Px
open Go.RowKit Go.Proofs.YtgdpojleejdfaaaDoorW.PrintWords Go.Proofs.YtgdpojleejdfaaaDoorW.PrintLast Go.Proofs.YtgdpojleejdfaaaDoorW.PrintMore
set_option linter.unusedVariables false
set_option linter.unusedSimpArgs false
theorem rparse.all (k : Nat) : rlist.Con k ∧ rnode.Con k := by
  induction k using Nat.strongRecOn with
  | _ k ih => exact ⟨rlist.step k (fun m h => (ih m h).2), rnode.step k (fun m h => (ih m h).1)⟩
def tmplpiperef12_Parse.f (k : Nat) (s : ByteArray) : Option (List S39 × Int × Int) :=
  (rlexF k s).bind fun r => if r.2.2 = 0 then (rlist k r.1 0 0 (-1) false 0 []).bind fun q => if q.2.2.1 = 0 then some (q.1, s.size, 0) else some ([], q.2.1, q.2.2.1) else some ([], r.2.1, r.2.2)
theorem rlexL.mono : ∀ k s out p, LeO (rlexL k s out p) (rlexL (k + 1) s out p)
  | 0, _, _, _ => fun r h => by simp [rlexL] at h
  | k + 1, s, out, p => by
    unfold rlexL
    repeat' first
      | (with_reducible exact rlexL.mono k _ _ _)
      | (with_reducible exact tmplpiperef11_find.mono _ _ _ _)
      | (with_reducible exact tmplpiperef11_words.mono _ _)
      | (with_reducible exact tmplpiperef11_form.mono _ _)
      | (with_reducible exact LeO.refl _)
      | (with_reducible exact LeO.none _)
      | (with_reducible refine LeO.ite ?_ ?_)
      | (with_reducible refine LeO.bind ?_ (fun _ => ?_))
theorem rlexF.mono (k : Nat) (s : ByteArray) : LeO (rlexF k s) (rlexF (k + 1) s) := LeO.ite (LeO.refl _) (rlexL.mono k s _ _)
theorem rparse.mono : ∀ k, (∀ l i n op ie dp out, LeO (rlist k l i n op ie dp out) (rlist (k + 1) l i n op ie dp out)) ∧ (∀ l i n dp, LeO (rnode k l i n dp) (rnode (k + 1) l i n dp))
  | 0 => ⟨fun _ _ _ _ _ _ _ r h => by simp [rlist] at h, fun _ _ _ _ r h => by simp [rnode] at h⟩
  | k + 1 => by
    obtain ⟨ih1, ih2⟩ := rparse.mono k
    refine ⟨fun l i n op ie dp out => ?_, fun l i n dp => ?_⟩
    · unfold rlist
      repeat' first
        | (with_reducible exact ih1 _ _ _ _ _ _ _)
        | (with_reducible exact ih2 _ _ _ _)
        | (with_reducible exact LeO.refl _)
        | (with_reducible exact LeO.none _)
        | (with_reducible refine LeO.ite ?_ ?_)
        | (with_reducible refine LeO.bind ?_ (fun _ => ?_))
    · unfold rnode
      dsimp only
      repeat' first
        | (with_reducible exact ih1 _ _ _ _ _ _ _)
        | (with_reducible exact ih2 _ _ _ _)
        | (with_reducible exact LeO.refl _)
        | (with_reducible exact LeO.none _)
        | (with_reducible refine LeO.ite ?_ ?_)
        | (with_reducible refine LeO.bind ?_ (fun _ => ?_))
theorem tmplpiperef12_Parse.mono (s : ByteArray) (k : Nat) : LeO (tmplpiperef12_Parse.f k s) (tmplpiperef12_Parse.f (k + 1) s) := by
  unfold tmplpiperef12_Parse.f
  exact LeO.bind (rlexF.mono k s) (fun _ => LeO.ite (LeO.bind ((rparse.mono k).1 _ _ _ _ _ _ _) (fun _ => LeO.refl _)) (LeO.refl _))
set_option maxHeartbeats 1000000 in
set_option maxRecDepth 100000 in
theorem tmplpiperef12_Parse.calls (k : Nat) (s : ByteArray) (r1 : List S39) (r2 r3 : Int) (w : World) (h : tmplpiperef12_Parse.f k s = some (r1, r2, r3)) :
    Calls Tryd.prog 20 #[.string s] w fun e w' => ∃ v0_ : Value, e = .returned (.tuple #[v0_, .int .i64 r2, .int .i64 r3]) ∧ Kd.R k39 39 w' w.heap.size (fun _ => True) v0_ r1 ∧ Below w.heap.size w w' := by
  unfold tmplpiperef12_Parse.f at h
  obtain ⟨⟨l, q2, q3⟩, hl, H⟩ := Option.bind_eq_some_iff.1 h
  clear h
  have HL := Aside0.mk (rlexF.calls k s l q2 q3 w hl)
  clear hl
  replace H := Aside0.mk H
  go_enter Tryd.func20, Tryd.ntmps20
  go_wp2_with fail
  refine HL.out.mono ?_
  rintro e w1 ⟨v, rfl, RL, HB⟩
  obtain ⟨A, c, rfl⟩ := Kd.R_slice RL
  obtain ⟨_, hc, RC⟩ := Kd.R_reads' RL
  replace RC := Aside0.mk RC
  replace HB := Aside0.mk HB
  clear HL RL
  by_cases h3 : q3 = 0
  case neg =>
    have H2 := H.out; clear H
    rw [if_neg h3] at H2
    have h3' : (q3 != 0) = true := by simp [h3]
    clear h3
    simp only [Option.some.injEq, Prod.mk.injEq] at H2
    obtain ⟨rfl, rfl, rfl⟩ := H2
    go_wp2
    go_ret3
    exact ⟨_, rfl, Kd.R_nil _ _ _ _ _, HB.out⟩
  have H2 := H.out; clear H
  rw [if_pos h3] at H2
  have h3' : (q3 != 0) = false := by simp [h3]
  clear h3
  obtain ⟨⟨r, p2, p3, i', n'⟩, hp, H⟩ := Option.bind_eq_some_iff.1 H2
  clear H2
  replace hp := Aside0.mk hp
  replace H := Aside0.mk H
  replace hc := Aside0.mk hc
  go_wp2_with fail
  have HS : Stp w1 (w1.alloc (.cells (stC A c l 0 0) 73)) w1.heap.size 73 (stC A c l 0 0) (w1.alloc (.cells (stC A c l 0 0) 73)) := Stp.start (blk_new _ _) (below_alloc (Below.refl _ _) _) (Nat.le_refl _)
  refine ((rparse.all k).1 w1.heap.size A c l 0 0 (-1) false 0 r p2 p3 i' n' w1 _ HS RC.out hc.out hp.out).mono ?_
  rintro e w2 ⟨v, rfl, RR, S2⟩
  obtain ⟨A1, c1, rfl⟩ := Kd.R_slice RR
  replace RR := Aside0.mk (Kd.R_lower (base' := w.heap.size) RR (Nat.le_trans HB.out.size (by simp)))
  replace HB := Aside0.mk (below_step HB.out S2.bel)
  clear S2 HS hp RC
  by_cases h5 : p3 = 0
  case neg =>
    have H2 := H.out; clear H
    rw [if_neg h5] at H2
    have h5' : (p3 != 0) = true := by simp [h5]
    clear h5
    simp only [Option.some.injEq, Prod.mk.injEq] at H2
    obtain ⟨rfl, rfl, rfl⟩ := H2
    go_wp2
    go_ret3
    exact ⟨_, rfl, Kd.R_nil _ _ _ _ _, HB.out⟩
  have H2 := H.out; clear H
  rw [if_pos h5] at H2
  have h5' : (p3 != 0) = false := by simp [h5]
  clear h5
  simp only [Option.some.injEq, Prod.mk.injEq] at H2
  obtain ⟨rfl, rfl, rfl⟩ := H2
  go_wp2
  go_ret3
  exact ⟨_, rfl, RR.out, HB.out⟩
end Go.Proofs.YtgdpojleejdfaaaDoor.Px
