/- Contracts of value.IsName and value.Split. -/
import Derived.Test.YtgdpojleejdfaaaDoorPx2
import Derived.Test.YtgdpojleejdfaaaDoorLa
import Derived.Test.YtgdpojleejdfaaaDoorU
import Derived.Laws.RangeString
import Derived.Laws.RangeAny
namespace Go.Proofs.YtgdpojleejdfaaaDoor.Px
open Go.RowKit Go.Proofs.YtgdpojleejdfaaaDoorW.PrintWords Go.Proofs.YtgdpojleejdfaaaDoorW.PrintLast Go.Proofs.YtgdpojleejdfaaaDoorW.PrintMore
set_option linter.unusedVariables false
set_option linter.unusedSimpArgs false

/-- value.letter at a rune. -/
def letR (c : Int) : Bool := (decide (97 ≤ c) && decide (c ≤ 122)) || (decide (65 ≤ c) && decide (c ≤ 90))
theorem value_letter_is (c : Int) : value_letter.f c = some (letR c) := by
  unfold value_letter.f letR
  repeat' split
  all_goals
    congr 1
    symm
    first
    | (simp only [Bool.or_eq_true, Bool.and_eq_true, decide_eq_true_eq]; omega)
    | (simp only [Bool.or_eq_false_iff, Bool.and_eq_false_iff, decide_eq_false_iff_not]; omega)
    | (rw [Bool.eq_iff_iff]; simp only [Bool.or_eq_true, Bool.and_eq_true, decide_eq_true_eq]; omega)
def nmR (first : Bool) (c : Int) : Bool := letR c || (!first && (c == 95 || (decide (48 ≤ c) && decide (c ≤ 57))))
theorem nmR_high {first : Bool} {c : Int} (h : 128 ≤ c) : nmR first c = false := by
  unfold nmR letR
  have : (c == 95) = false := by rw [beq_eq_false_iff_ne]; omega
  rw [this, decide_eq_false (show ¬ c ≤ 122 by omega), decide_eq_false (show ¬ c ≤ 90 by omega), decide_eq_false (show ¬ c ≤ 57 by omega)]
  simp
theorem nmR_byte (first : Bool) (b : UInt8) : nmR first (b.toNat : Int) = (letB b || (!first && (b == 95 || digB b))) := by
  unfold nmR letR letB digB
  have h95 : ((b.toNat : Int) == 95) = (b == 95) := by
    rw [Bool.eq_iff_iff, beq_iff_eq, beq_iff_eq]
    exact ⟨fun h => UInt8.toNat_inj.1 (by have : b.toNat = 95 := by omega
                                          rw [this]; rfl), fun h => by rw [h]; rfl⟩
  rw [h95]
  have a1 : decide ((97 : Int) ≤ (b.toNat : Int)) = decide (97 ≤ b.toNat) := by rw [decide_eq_decide]; omega
  have a2 : decide ((b.toNat : Int) ≤ (122 : Int)) = decide (b.toNat ≤ 122) := by rw [decide_eq_decide]; omega
  have a3 : decide ((65 : Int) ≤ (b.toNat : Int)) = decide (65 ≤ b.toNat) := by rw [decide_eq_decide]; omega
  have a4 : decide ((b.toNat : Int) ≤ (90 : Int)) = decide (b.toNat ≤ 90) := by rw [decide_eq_decide]; omega
  have a5 : decide ((48 : Int) ≤ (b.toNat : Int)) = decide (48 ≤ b.toNat) := by rw [decide_eq_decide]; omega
  have a6 : decide ((b.toNat : Int) ≤ (57 : Int)) = decide (b.toNat ≤ 57) := by rw [decide_eq_decide]; omega
  rw [a1, a2, a3, a4, a5, a6]

theorem nm_step (s : ByteArray) (pos : Nat) (h : pos < s.size) : nmGo (pos == 0) (s.data.toList.drop pos) = (nmR (pos == 0) ((Utf8.decode s pos).1 : Int) && nmGo false (s.data.toList.drop (pos + (Utf8.decode s pos).2))) ∧
    1 ≤ (Utf8.decode s pos).2 ∧ (nmR (pos == 0) ((Utf8.decode s pos).1 : Int) = true → (Utf8.decode s pos).2 = 1) := by
  have hl : pos < s.data.toList.length := by rw [data_length]; exact h
  have hb : s.data.toList[pos] = s[pos]'h := by simp [ByteArray.getElem_eq_getElem_data]
  have hd := List.drop_eq_getElem_cons hl
  rw [hb] at hd
  by_cases ha : (s[pos]'h).toNat < 128
  · rw [decode_ascii s pos h ha, hd]
    exact ⟨by rw [nmGo, nmR_byte], Nat.le_refl _, fun _ => rfl⟩
  · obtain ⟨d1, d2⟩ := decode_high s pos h (by omega)
    have hn : nmR (pos == 0) ((Utf8.decode s pos).1 : Int) = false := nmR_high (by omega)
    have hn2 : nmR (pos == 0) ((s[pos]'h).toNat : Int) = false := nmR_high (by omega)
    rw [nmR_byte] at hn2
    exact ⟨by rw [hn, hd, nmGo, hn2]; rfl, d2, fun e => by rw [hn] at e; cases e⟩
def NmRel (s : ByteArray) (w wr : World) : Prop := ∃ (nd pos : Nat), wr = (w.drewN nd).iter s pos ∧ pos ≤ s.size ∧ nmGo (pos == 0) (s.data.toList.drop pos) = nmGo true s.data.toList

set_option maxHeartbeats 1000000 in
set_option maxRecDepth 1000000 in
theorem isName_any (s : ByteArray) (w : World) : Calls Tryd.prog 66 #[.string s] w fun e w' => e = .returned (.bool (nameL s.data.toList)) ∧ Below w.heap.size w w' := by
  by_cases h0 : s.toList = []
  · have e1 : (s.toList = []) = True := eq_true h0
    have hn : nameL s.data.toList = false := by rw [← ByteArray.toList_eq, h0]; rfl
    go_enter Tryd.func66, Tryd.ntmps66
    go_wp2
    go_ret
    exact ⟨by rw [hn]; rfl, Below.refl _ _⟩
  have e2 : s.toList.isEmpty = false := by simp [h0]
  by_cases h32 : (s.size : Int) > 32
  · have hn : nameL s.data.toList = false := by
      unfold nameL
      rw [decide_eq_false (show ¬ s.data.toList.length ≤ 32 by rw [data_length]; omega)]; simp
    have e3 : decide ((32 : Int) < s.size) = true := decide_eq_true h32
    clear h0
    go_enter Tryd.func66, Tryd.ntmps66
    go_wp2
    go_ret
    exact ⟨by rw [hn]; rfl, Below.refl _ _⟩
  have e3 : decide ((32 : Int) < s.size) = false := decide_eq_false h32
  have hR : nameL s.data.toList = nmGo true s.data.toList := by
    unfold nameL
    rw [decide_eq_true (show s.data.toList.length ≤ 32 by rw [data_length]; omega)]
    rw [ByteArray.toList_eq] at h0
    cases h : s.data.toList with
    | nil => exact absurd h h0
    | cons _ _ => rfl
  rw [hR]
  have hs : (s.size : Int) ≤ 32 := by omega
  clear h0 h32 hR
  have hR := Aside0.mk (rfl : nmGo true s.data.toList = nmGo true s.data.toList)
  generalize hR' : nmGo true s.data.toList = R at *
  go_enter Tryd.func66, Tryd.ntmps66
  go_wp2
  go_loopw [3] (fun n wr => NmRel s w wr) (fun _ wr => s.size - wr.iterPos w.heap.size)
  case atStart => exact ⟨0, 0, rfl, Nat.zero_le _, rfl⟩
  case round =>
    obtain ⟨nd, pos, rfl, hpos, hgo⟩ := hrel
    by_cases hp : pos < s.size
    · have hnx : ∀ ty, (Instr.next (.pointer (some ⟨w.heap.size, 0, none⟩)) true ty).run Tryd.prog ((w.drewN nd).iter s pos) = _ := fun ty => run_next_any (w.drewN nd) s pos ty hp
      obtain ⟨hst, hwd, hw1⟩ := nm_step s pos hp
      rw [hst, hR'] at hgo
      clear hst
      generalize hwe : (Utf8.decode s pos).2 = wd at *
      generalize hce : ((Utf8.decode s pos).1 : Int) = c at *
      clear hce
      replace hgo := Aside0.mk hgo
      replace hw1 := Aside0.mk hw1
      have drw : ∀ n, ((w.drewN nd).iter s (pos + wd)).drewN n = (w.drewN (nd + n)).iter s (pos + wd) := fun n => by simp [World.iter, World.alloc, World.drewN, Nat.add_assoc]
      have stay : ∀ n, nmR (pos == 0) c = true → NmRel s w (((w.drewN nd).iter s (pos + wd)).drewN n) := fun n h => by
        have h1 := hw1.out h
        refine ⟨nd + n, pos + wd, drw n, by omega, ?_⟩
        rw [hR', ← hgo.out, h, Bool.true_and]
        have : (pos + wd == 0) = false := by rw [beq_eq_false_iff_ne]; omega
        rw [this]
      have off : nmR (pos == 0) c = false → R = false := fun h => by rw [← hgo.out, h, Bool.false_and]
      have frm : ∀ n, Below w.heap.size w (((w.drewN nd).iter s (pos + wd)).drewN n) := fun n => by
        rw [drw]; exact (pw_below_drewN (Below.refl _ w) (nd + n)).alloc (Nat.le_refl _) _
      have msr : ∀ n, s.size - (((w.drewN nd).iter s (pos + wd)).drewN n).iterPos w.heap.size < s.size - ((w.drewN nd).iter s pos).iterPos w.heap.size := fun n => by
        have e1 : ((w.drewN nd).iter s pos).iterPos w.heap.size = pos := World.iterPos_iter (w.drewN nd) s pos
        have e2 : (((w.drewN nd).iter s (pos + wd)).drewN n).iterPos w.heap.size = pos + wd := by
          rw [drw]; exact World.iterPos_iter (w.drewN (nd + n)) s (pos + wd)
        rw [e1, e2]; omega
      replace stay := Aside0.mk stay
      replace off := Aside0.mk off
      replace frm := Aside0.mk frm
      replace msr := Aside0.mk msr
      clear drw hgo
      go_wp2_with fail
      refine (value_letter.calls c (letR c) _ (value_letter_is c)).mono ?_
      rintro e w1 ⟨rfl, ⟨n, rfl⟩⟩
      replace stay := Aside0.mk (stay.out n)
      replace frm := Aside0.mk (frm.out n)
      replace msr := Aside0.mk (msr.out n)
      generalize ((w.drewN nd).iter s (pos + wd)).drewN n = w1 at *
      by_cases hl : letR c = true
      · rw [hl]
        go_wp2
        go_roundw
        case rel => exact stay.out (by simp [nmR, hl])
        case measure => exact msr.out
      have hl : letR c = false := by simpa using hl
      rw [hl]
      by_cases hp0 : pos = 0
      · have hb0 : ((pos : Int) == 0) = true := by rw [beq_iff_eq]; omega
        have hR := off.out (by simp [nmR, hl, hp0])
        go_wp2
        go_ret
        exact ⟨by rw [hR]; rfl, frm.out⟩
      have hb0 : ((pos : Int) == 0) = false := by rw [beq_eq_false_iff_ne]; omega
      have hn0 : (pos == 0) = false := by rw [beq_eq_false_iff_ne]; exact hp0
      by_cases h95 : c = 95
      · have hb95 : (c != 95) = false := by simp [h95]
        have hb95' : (c == 95) = true := by simp [h95]
        go_wp2
        go_roundw
        case rel => exact stay.out (by simp [nmR, hl, hn0, hb95'])
        case measure => exact msr.out
      have hb95 : (c != 95) = true := by simp [h95]
      have hb95' : (c == 95) = false := by simp [h95]
      by_cases h48 : c < 48
      · have hb48 : decide (c < 48) = true := decide_eq_true h48
        have hR := off.out (by simp [nmR, hl, hn0, hb95']; omega)
        go_wp2
        go_ret
        exact ⟨by rw [hR]; rfl, frm.out⟩
      have hb48 : decide (c < 48) = false := decide_eq_false h48
      by_cases h57 : 57 < c
      · have hb57 : decide (57 < c) = true := decide_eq_true h57
        have hR := off.out (by simp [nmR, hl, hn0, hb95']; omega)
        go_wp2
        go_ret
        exact ⟨by rw [hR]; rfl, frm.out⟩
      have hb57 : decide (57 < c) = false := decide_eq_false h57
      go_wp2
      go_roundw
      case rel => exact stay.out (by simp [nmR, hl, hn0, hb95']; omega)
      case measure => exact msr.out
    · have hnx : ∀ ty, (Instr.next (.pointer (some ⟨w.heap.size, 0, none⟩)) true ty).run Tryd.prog ((w.drewN nd).iter s pos) = _ := fun ty => run_next_end (w.drewN nd) s pos ty hp
      rw [List.drop_eq_nil_of_le (by rw [data_length]; omega), hR'] at hgo
      go_wp2
      go_ret
      exact ⟨by rw [← hgo]; rfl, (pw_below_drewN (Below.refl _ w) nd).alloc (Nat.le_refl _) _⟩
end Go.Proofs.YtgdpojleejdfaaaDoor.Px
