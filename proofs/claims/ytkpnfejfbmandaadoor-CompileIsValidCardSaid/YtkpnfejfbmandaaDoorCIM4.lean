import Derived.Test.YtkpnfejfbmandaaDoorCIM2
import Derived.Test.YtkpnfejfbmandaaDoorCIM3
import Derived.Laws.RangeString
import Derived.Laws.RangeAny
/- Merged texts: Nm Nf Sp. -/
namespace Go.Proofs.YtkpnfejfbmandaaDoor.Px
open Go.RowKit Go.Proofs.YtkpnfejfbmandaaDoorW.PrintWords Go.Proofs.YtkpnfejfbmandaaDoorW.PrintLast Go.Proofs.YtkpnfejfbmandaaDoorW.PrintMore
set_option linter.unusedVariables false
set_option linter.unusedSimpArgs false
def letR (c : Int) : Bool := (decide (97 ≤ c) && decide (c ≤ 122)) || (decide (65 ≤ c) && decide (c ≤ 90))
theorem value_letter_is (c : Int) : value_letter.f c = some (letR c) := by
  unfold value_letter.f letR
  repeat' split
  all_goals
    congr 1
    symm
    first
    | (simp only [Bool.or_eq_true, Bool.and_eq_true, decide_eq_true_eq]; omega)
    | (simp only [Bool.or_eq_false_iff, Bool.and_eq_false_iff, decide_eq_false_iff_not]; omega)
    | (rw [Bool.eq_iff_iff]; simp only [Bool.or_eq_true, Bool.and_eq_true, decide_eq_true_eq]; omega)
def nmR (first : Bool) (c : Int) : Bool := letR c || (!first && (c == 95 || (decide (48 ≤ c) && decide (c ≤ 57))))
theorem nmR_high {first : Bool} {c : Int} (h : 128 ≤ c) : nmR first c = false := by
  unfold nmR letR
  have : (c == 95) = false := by rw [beq_eq_false_iff_ne]; omega
  rw [this, decide_eq_false (show ¬ c ≤ 122 by omega), decide_eq_false (show ¬ c ≤ 90 by omega), decide_eq_false (show ¬ c ≤ 57 by omega)]
  simp
theorem nmR_byte (first : Bool) (b : UInt8) : nmR first (b.toNat : Int) = (letB b || (!first && (b == 95 || digB b))) := by
  unfold nmR letR letB digB
  have h95 : ((b.toNat : Int) == 95) = (b == 95) := by
    rw [Bool.eq_iff_iff, beq_iff_eq, beq_iff_eq]
    exact ⟨fun h => UInt8.toNat_inj.1 (by have : b.toNat = 95 := by omega
                                          rw [this]; rfl), fun h => by rw [h]; rfl⟩
  rw [h95]
  have a1 : decide ((97 : Int) ≤ (b.toNat : Int)) = decide (97 ≤ b.toNat) := by rw [decide_eq_decide]; omega
  have a2 : decide ((b.toNat : Int) ≤ (122 : Int)) = decide (b.toNat ≤ 122) := by rw [decide_eq_decide]; omega
  have a3 : decide ((65 : Int) ≤ (b.toNat : Int)) = decide (65 ≤ b.toNat) := by rw [decide_eq_decide]; omega
  have a4 : decide ((b.toNat : Int) ≤ (90 : Int)) = decide (b.toNat ≤ 90) := by rw [decide_eq_decide]; omega
  have a5 : decide ((48 : Int) ≤ (b.toNat : Int)) = decide (48 ≤ b.toNat) := by rw [decide_eq_decide]; omega
  have a6 : decide ((b.toNat : Int) ≤ (57 : Int)) = decide (b.toNat ≤ 57) := by rw [decide_eq_decide]; omega
  rw [a1, a2, a3, a4, a5, a6]
theorem nm_step (s : ByteArray) (pos : Nat) (h : pos < s.size) : nmGo (pos == 0) (s.data.toList.drop pos) = (nmR (pos == 0) ((Utf8.decode s pos).1 : Int) && nmGo false (s.data.toList.drop (pos + (Utf8.decode s pos).2))) ∧
    1 ≤ (Utf8.decode s pos).2 ∧ (nmR (pos == 0) ((Utf8.decode s pos).1 : Int) = true → (Utf8.decode s pos).2 = 1) := by
  have hl : pos < s.data.toList.length := by rw [data_length]; exact h
  have hb : s.data.toList[pos] = s[pos]'h := by simp [ByteArray.getElem_eq_getElem_data]
  have hd := List.drop_eq_getElem_cons hl
  rw [hb] at hd
  by_cases ha : (s[pos]'h).toNat < 128
  · rw [decode_ascii s pos h ha, hd]
    exact ⟨by rw [nmGo, nmR_byte], Nat.le_refl _, fun _ => rfl⟩
  · obtain ⟨d1, d2⟩ := decode_high s pos h (by omega)
    have hn : nmR (pos == 0) ((Utf8.decode s pos).1 : Int) = false := nmR_high (by omega)
    have hn2 : nmR (pos == 0) ((s[pos]'h).toNat : Int) = false := nmR_high (by omega)
    rw [nmR_byte] at hn2
    exact ⟨by rw [hn, hd, nmGo, hn2]; rfl, d2, fun e => by rw [hn] at e; cases e⟩
def NmRel (s : ByteArray) (w wr : World) : Prop := ∃ (nd pos : Nat), wr = (w.drewN nd).iter s pos ∧ pos ≤ s.size ∧ nmGo (pos == 0) (s.data.toList.drop pos) = nmGo true s.data.toList
set_option maxHeartbeats 1000000 in
set_option maxRecDepth 1000000 in
theorem isName_any (s : ByteArray) (w : World) : Calls Tryd.prog 77 #[.string s] w fun e w' => e = .returned (.bool (nameL s.data.toList)) ∧ Below w.heap.size w w' := by
  by_cases h0 : s.toList = []
  · have e1 : (s.toList = []) = True := eq_true h0
    have hn : nameL s.data.toList = false := by rw [← ByteArray.toList_eq, h0]; rfl
    go_enter Tryd.func77, Tryd.ntmps77
    go_wp2
    go_ret
    exact ⟨by rw [hn]; rfl, Below.refl _ _⟩
  have e2 : s.toList.isEmpty = false := by simp [h0]
  by_cases h32 : (s.size : Int) > 32
  · have hn : nameL s.data.toList = false := by
      unfold nameL
      rw [decide_eq_false (show ¬ s.data.toList.length ≤ 32 by rw [data_length]; omega)]; simp
    have e3 : decide ((32 : Int) < s.size) = true := decide_eq_true h32
    clear h0
    go_enter Tryd.func77, Tryd.ntmps77
    go_wp2
    go_ret
    exact ⟨by rw [hn]; rfl, Below.refl _ _⟩
  have e3 : decide ((32 : Int) < s.size) = false := decide_eq_false h32
  have hR : nameL s.data.toList = nmGo true s.data.toList := by
    unfold nameL
    rw [decide_eq_true (show s.data.toList.length ≤ 32 by rw [data_length]; omega)]
    rw [ByteArray.toList_eq] at h0
    cases h : s.data.toList with
    | nil => exact absurd h h0
    | cons _ _ => rfl
  rw [hR]
  have hs : (s.size : Int) ≤ 32 := by omega
  clear h0 h32 hR
  have hR := Aside0.mk (rfl : nmGo true s.data.toList = nmGo true s.data.toList)
  generalize hR' : nmGo true s.data.toList = R at *
  go_enter Tryd.func77, Tryd.ntmps77
  go_wp2
  go_loopw [3] (fun n wr => NmRel s w wr) (fun _ wr => s.size - wr.iterPos w.heap.size)
  case atStart => exact ⟨0, 0, rfl, Nat.zero_le _, rfl⟩
  case round =>
    obtain ⟨nd, pos, rfl, hpos, hgo⟩ := hrel
    by_cases hp : pos < s.size
    · have hnx : ∀ ty, (Instr.next (.pointer (some ⟨w.heap.size, 0, none⟩)) true ty).run Tryd.prog ((w.drewN nd).iter s pos) = _ := fun ty => run_next_any (w.drewN nd) s pos ty hp
      obtain ⟨hst, hwd, hw1⟩ := nm_step s pos hp
      rw [hst, hR'] at hgo
      clear hst
      generalize hwe : (Utf8.decode s pos).2 = wd at *
      generalize hce : ((Utf8.decode s pos).1 : Int) = c at *
      clear hce
      replace hgo := Aside0.mk hgo
      replace hw1 := Aside0.mk hw1
      have drw : ∀ n, ((w.drewN nd).iter s (pos + wd)).drewN n = (w.drewN (nd + n)).iter s (pos + wd) := fun n => by simp [World.iter, World.alloc, World.drewN, Nat.add_assoc]
      have stay : ∀ n, nmR (pos == 0) c = true → NmRel s w (((w.drewN nd).iter s (pos + wd)).drewN n) := fun n h => by
        have h1 := hw1.out h
        refine ⟨nd + n, pos + wd, drw n, by omega, ?_⟩
        rw [hR', ← hgo.out, h, Bool.true_and]
        have : (pos + wd == 0) = false := by rw [beq_eq_false_iff_ne]; omega
        rw [this]
      have off : nmR (pos == 0) c = false → R = false := fun h => by rw [← hgo.out, h, Bool.false_and]
      have frm : ∀ n, Below w.heap.size w (((w.drewN nd).iter s (pos + wd)).drewN n) := fun n => by
        rw [drw]; exact (pw_below_drewN (Below.refl _ w) (nd + n)).alloc (Nat.le_refl _) _
      have msr : ∀ n, s.size - (((w.drewN nd).iter s (pos + wd)).drewN n).iterPos w.heap.size < s.size - ((w.drewN nd).iter s pos).iterPos w.heap.size := fun n => by
        have e1 : ((w.drewN nd).iter s pos).iterPos w.heap.size = pos := World.iterPos_iter (w.drewN nd) s pos
        have e2 : (((w.drewN nd).iter s (pos + wd)).drewN n).iterPos w.heap.size = pos + wd := by
          rw [drw]; exact World.iterPos_iter (w.drewN (nd + n)) s (pos + wd)
        rw [e1, e2]; omega
      replace stay := Aside0.mk stay
      replace off := Aside0.mk off
      replace frm := Aside0.mk frm
      replace msr := Aside0.mk msr
      clear drw hgo
      go_wp2_with fail
      refine (value_letter.calls c (letR c) _ (value_letter_is c)).mono ?_
      rintro e w1 ⟨rfl, ⟨n, rfl⟩⟩
      replace stay := Aside0.mk (stay.out n)
      replace frm := Aside0.mk (frm.out n)
      replace msr := Aside0.mk (msr.out n)
      generalize ((w.drewN nd).iter s (pos + wd)).drewN n = w1 at *
      by_cases hl : letR c = true
      · rw [hl]
        go_wp2
        go_roundw
        case rel => exact stay.out (by simp [nmR, hl])
        case measure => exact msr.out
      have hl : letR c = false := by simpa using hl
      rw [hl]
      by_cases hp0 : pos = 0
      · have hb0 : ((pos : Int) == 0) = true := by rw [beq_iff_eq]; omega
        have hR := off.out (by simp [nmR, hl, hp0])
        go_wp2
        go_ret
        exact ⟨by rw [hR]; rfl, frm.out⟩
      have hb0 : ((pos : Int) == 0) = false := by rw [beq_eq_false_iff_ne]; omega
      have hn0 : (pos == 0) = false := by rw [beq_eq_false_iff_ne]; exact hp0
      by_cases h95 : c = 95
      · have hb95 : (c != 95) = false := by simp [h95]
        have hb95' : (c == 95) = true := by simp [h95]
        go_wp2
        go_roundw
        case rel => exact stay.out (by simp [nmR, hl, hn0, hb95'])
        case measure => exact msr.out
      have hb95 : (c != 95) = true := by simp [h95]
      have hb95' : (c == 95) = false := by simp [h95]
      by_cases h48 : c < 48
      · have hb48 : decide (c < 48) = true := decide_eq_true h48
        have hR := off.out (by simp [nmR, hl, hn0, hb95']; omega)
        go_wp2
        go_ret
        exact ⟨by rw [hR]; rfl, frm.out⟩
      have hb48 : decide (c < 48) = false := decide_eq_false h48
      by_cases h57 : 57 < c
      · have hb57 : decide (57 < c) = true := decide_eq_true h57
        have hR := off.out (by simp [nmR, hl, hn0, hb95']; omega)
        go_wp2
        go_ret
        exact ⟨by rw [hR]; rfl, frm.out⟩
      have hb57 : decide (57 < c) = false := decide_eq_false h57
      go_wp2
      go_roundw
      case rel => exact stay.out (by simp [nmR, hl, hn0, hb95']; omega)
      case measure => exact msr.out
    · have hnx : ∀ ty, (Instr.next (.pointer (some ⟨w.heap.size, 0, none⟩)) true ty).run Tryd.prog ((w.drewN nd).iter s pos) = _ := fun ty => run_next_end (w.drewN nd) s pos ty hp
      rw [List.drop_eq_nil_of_le (by rw [data_length]; omega), hR'] at hgo
      go_wp2
      go_ret
      exact ⟨by rw [← hgo]; rfl, (pw_below_drewN (Below.refl _ w) nd).alloc (Nat.le_refl _) _⟩
end Go.Proofs.YtkpnfejfbmandaaDoor.Px
namespace Go.Proofs.YtkpnfejfbmandaaDoor.Px
open Go.RowKit Go.Proofs.YtkpnfejfbmandaaDoorW.PrintWords Go.Proofs.YtkpnfejfbmandaaDoorW.PrintLast Go.Proofs.YtkpnfejfbmandaaDoorW.PrintMore
set_option linter.unusedVariables false
set_option linter.unusedSimpArgs false
set_option maxRecDepth 100000 in
theorem notName_any (s : ByteArray) (w : World) : Calls Tryd.prog 85 #[.string s] w fun e w' => e = .returned (.bool (!nameL s.data.toList)) ∧ Below w.heap.size w w' := by
  go_enter Tryd.func85, Tryd.ntmps85
  go_wp2_with fail
  refine (isName_any s _).mono ?_
  rintro e w1 ⟨rfl, HB⟩
  cases hb : nameL s.data.toList
  · go_wp2
    go_ret
    exact ⟨by rw [hb]; rfl, HB⟩
  · go_wp2
    go_ret
    exact ⟨by rw [hb]; rfl, HB⟩
def IxRel (xs : List ByteArray) (w : World) (v : Value) (wr : World) : Prop := ∃ i : Nat, i ≤ xs.length ∧ v = .int .i64 i ∧ (lsX xs).all nameL = ((lsX xs).drop i).all nameL ∧ Below w.heap.size w wr
where lsX (xs : List ByteArray) : List (List UInt8) := xs.map (·.data.toList)
theorem lsX_drop (xs : List ByteArray) (i : Nat) (h : i < xs.length) : ((IxRel.lsX xs).drop i).all nameL = (nameL xs[i].data.toList && ((IxRel.lsX xs).drop (i + 1)).all nameL) := by
  have hl : i < (IxRel.lsX xs).length := by unfold IxRel.lsX; rw [List.length_map]; exact h
  rw [List.drop_eq_getElem_cons hl, List.all_cons]
  simp [IxRel.lsX]
theorem rd_at (a : List ByteArray) (i : Nat) (h : i < a.length) : rdOf ByteArray.empty a (i : Int) = a[i] := by simp [rdOf, List.getD_eq_getElem?_getD, h]
set_option maxHeartbeats 1000000 in
set_option maxRecDepth 100000 in
theorem indexFunc_any (xs : List ByteArray) (A : Option Addr) (c : Nat) (w : World) (hC : Kd.C Kd.string w A xs.length xs) (hc : xs.length ≤ c) :
    Calls Tryd.prog 96 #[.slice A xs.length c, .func (.func 85) #[] #[]] w fun e w' => ∃ n : Int, e = .returned (.int .i64 n) ∧ decide (0 ≤ n) = !(xs.map (·.data.toList)).all nameL ∧ Below w.heap.size w w' := by
  have hm := Kd.C_max hC
  replace hC := Aside0.mk hC
  go_enter Tryd.func96, Tryd.ntmps96
  go_wp2
  go_loopw [8] (fun v wr => IxRel xs w v wr) (fun v _ => xs.length - (intOf v).toNat)
  case atStart => exact ⟨0, Nat.zero_le _, rfl, rfl, Below.refl _ _⟩
  case round =>
    obtain ⟨i, hi, rfl, hE, HB⟩ := hrel
    replace hE := Aside0.mk hE
    replace HB := Aside0.mk HB
    by_cases hlt : i < xs.length
    case neg =>
      obtain rfl : i = xs.length := by omega
      have hE2 := Aside0.mk (show (xs.map (·.data.toList)).all nameL = true by
        have := hE.out
        rw [List.drop_eq_nil_of_le (by simp [IxRel.lsX])] at this
        exact this)
      clear hE
      go_wp2
      go_ret
      exact ⟨_, rfl, by rw [hE2.out]; rfl, HB.out⟩
    obtain ⟨ad, rfl, hcell⟩ := Kd.at_string (Kd.C_below hC.out HB.out) (i : Int) (by omega) (by omega)
    rw [rd_at xs i hlt, Int.toNat_natCast] at hcell
    have hEx := Aside0.mk (hE.out.trans (lsX_drop xs i hlt))
    clear hE
    generalize xs[i] = x at *
    go_wp2_with fail
    refine (notName_any x _).mono ?_
    rintro e w2 ⟨rfl, HB2⟩
    replace HB := Aside0.mk (below_step HB.out HB2)
    clear HB2 hcell
    cases hb0 : nameL x.data.toList with
    | false =>
      have hE2 := Aside0.mk (show (xs.map (·.data.toList)).all nameL = false by
        have := hEx.out
        rw [hb0, Bool.false_and] at this
        exact this)
      clear hEx hb0
      go_wp2
      go_ret
      exact ⟨_, rfl, by rw [hE2.out]; exact decide_eq_true (by omega), HB.out⟩
    | true =>
      have hE2 := Aside0.mk (show (IxRel.lsX xs).all nameL = ((IxRel.lsX xs).drop (i + 1)).all nameL by rw [hEx.out, hb0, Bool.true_and])
      clear hEx hb0
      go_wp2
      go_roundw
      case rel => exact ⟨i + 1, by omega, by simp [intOf], hE2.out, HB.out⟩
      case measure => simp [intOf]; omega
set_option maxRecDepth 100000 in
theorem containsFunc_any (xs : List ByteArray) (A : Option Addr) (c : Nat) (w : World) (hC : Kd.C Kd.string w A xs.length xs) (hc : xs.length ≤ c) :
    Calls Tryd.prog 84 #[.slice A xs.length c, .func (.func 85) #[] #[]] w fun e w' => e = .returned (.bool (!(xs.map (·.data.toList)).all nameL)) ∧ Below w.heap.size w w' := by
  go_enter Tryd.func84, Tryd.ntmps84
  go_wp2_with fail
  refine (indexFunc_any xs A c _ hC hc).mono ?_
  rintro e w1 ⟨n, rfl, hn, HB⟩
  generalize hR : (!(xs.map (·.data.toList)).all nameL) = R at *
  go_wp2
  go_ret
  exact ⟨by rw [hR]; rfl, HB⟩
end Go.Proofs.YtkpnfejfbmandaaDoor.Px
namespace Go.Proofs.YtkpnfejfbmandaaDoor.Px
open Go.RowKit Go.Proofs.YtkpnfejfbmandaaDoorW.PrintWords Go.Proofs.YtkpnfejfbmandaaDoorW.PrintLast Go.Proofs.YtkpnfejfbmandaaDoorW.PrintMore
set_option linter.unusedVariables false
set_option linter.unusedSimpArgs false
structure Glob (w : World) : Prop where
  mx : ∃ m, w.cell? ⟨2, 0, none⟩ = some (.int .i64 m)
theorem Glob.below {w w1 : World} (h : Glob w) (hb : Below w.heap.size w w1) : Glob w1 := by
  obtain ⟨m, hm⟩ := h.mx
  exact ⟨⟨m, (hb.cell (World.block_lt_of_cell? _ _ hm)).trans hm⟩⟩
theorem split_len (s : ByteArray) : (Lib.splitB ⟨#[46]⟩ 0 (Lib.countB s ⟨#[46]⟩) s).length = Lib.countB s ⟨#[46]⟩ + 1 := Lib.splitB_all _ (by decide) 0 _ s rfl
theorem split_data (s : ByteArray) : (Lib.splitB ⟨#[46]⟩ 0 (Lib.countB s ⟨#[46]⟩) s).map (·.data.toList) = Lib.split s.data.toList [46] := Lib.splitB_data _ 0 _ s
def pathE (s : ByteArray) : Int := if pathL s.data.toList = true then 0 else 11
theorem pathE_t {s : ByteArray} (h : pathL s.data.toList = true) : pathE s = 0 := if_pos h
theorem pathE_f {s : ByteArray} (h : pathL s.data.toList = false) : pathE s = 11 := if_neg (by rw [h]; decide)
set_option maxHeartbeats 1000000 in
set_option maxRecDepth 100000 in
theorem split_any (s : ByteArray) (w : World) (hs : s.size ≤ 65536) (hG : Glob w) :
    Calls Tryd.prog 63 #[.string s] w fun e w' => ∃ v, e = .returned (.tuple #[v, .int .i64 (pathE s)]) ∧ Below w.heap.size w w' := by
  by_cases h0 : s.toList = []
  · have e1 : (s.toList = []) = True := eq_true h0
    have hn := pathE_t (s := s) (by rw [← ByteArray.toList_eq, h0]; rfl)
    go_enter Tryd.func63, Tryd.ntmps63
    go_wp2
    go_ret2
    exact ⟨_, by rw [hn]; rfl, Below.refl _ _⟩
  have e2 : s.toList.isEmpty = false := by simp [h0]
  have hP : pathL s.data.toList = (decide ((Lib.split s.data.toList [46]).length ≤ 8) && (Lib.split s.data.toList [46]).all nameL) := by
    unfold pathL
    rw [← ByteArray.toList_eq, e2, Bool.false_or]
  obtain ⟨m, hm⟩ := hG.mx
  have hsp := Tryd.strings_Split s ⟨#[46]⟩ m w (by omega) hm (by decide)
  have hL := split_len s
  have hD := split_data s
  rw [← hL] at hsp
  generalize Lib.splitB ⟨#[46]⟩ 0 (Lib.countB s ⟨#[46]⟩) s = xs at *
  have hmx : xs.length ≤ 70000 := by rw [hL]; have := Lib.countB_le ⟨#[46]⟩ (by decide) _ s (Nat.le_refl _); omega
  clear hL
  replace hP := Aside0.mk hP
  replace hD := Aside0.mk hD
  replace hsp := Aside0.mk hsp
  clear h0 hm
  go_enter Tryd.func63, Tryd.ntmps63
  go_wp2_with fail
  refine hsp.out.mono ?_
  rintro e w1 ⟨rfl, rfl⟩
  have hO : Kd.R Kd.string 9 (w.alloc (.cells (xs.map Value.string).toArray 9)) w.heap.size (fun _ => True) (.slice (some ⟨w.heap.size, 0, none⟩) xs.length xs.length) xs :=
    Kd.R_of_own (own_lit_of (enc := Value.string) w w.heap.size 9 xs (Nat.le_refl _) (by omega)) (fun _ _ => trivial)
  have hC := Aside0.mk (Kd.R_reads' hO).2.2
  have hB := Aside0.mk ((Below.refl w.heap.size w).alloc (Nat.le_refl _) (.cells (xs.map Value.string).toArray 9))
  clear hO hsp
  generalize w.alloc (.cells (xs.map Value.string).toArray 9) = w1 at *
  by_cases h8 : xs.length ≤ 8
  · have h8b : decide ((8 : Int) < (xs.length : Int)) = false := decide_eq_false (by omega)
    go_wp2_with fail
    refine (containsFunc_any xs _ _ _ hC.out (Nat.le_refl _)).mono ?_
    rintro e w2 ⟨rfl, HB2⟩
    have HB := Aside0.mk (below_step hB.out HB2)
    clear HB2 hB hC
    cases hb : (xs.map (·.data.toList)).all nameL with
    | true =>
      have hR := Aside0.mk (show pathE s = 0 from pathE_t <| by rw [hP.out, ← hD.out, hb, List.length_map, decide_eq_true h8]; rfl)
      go_wp2
      go_ret2
      exact ⟨_, by rw [hR.out]; rfl, HB.out⟩
    | false =>
      have hR := Aside0.mk (show pathE s = 11 from pathE_f <| by rw [hP.out, ← hD.out, hb, Bool.and_false])
      go_wp2
      go_ret2
      exact ⟨_, by rw [hR.out]; rfl, HB.out⟩
  · have h8b : decide ((8 : Int) < (xs.length : Int)) = true := decide_eq_true (by omega)
    have hR := Aside0.mk (show pathE s = 11 from pathE_f <| by rw [hP.out, ← hD.out, List.length_map, decide_eq_false h8, Bool.false_and])
    go_wp2
    go_ret2
    exact ⟨_, by rw [hR.out]; rfl, hB.out⟩
end Go.Proofs.YtkpnfejfbmandaaDoor.Px
