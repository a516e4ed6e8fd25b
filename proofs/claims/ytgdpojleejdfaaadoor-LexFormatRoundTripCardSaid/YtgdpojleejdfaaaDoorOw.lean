/- The walk of tmplpipelaw11.LexOffsets. -/
import Derived.Test.YtgdpojleejdfaaaDoorOf
import Derived.Test.YtgdpojleejdfaaaDoorAl
namespace Go.Proofs.YtgdpojleejdfaaaDoor.Px
open Go.RowKit Go.Proofs.YtgdpojleejdfaaaDoorW.PrintWords Go.Proofs.YtgdpojleejdfaaaDoorW.PrintLast Go.Proofs.YtgdpojleejdfaaaDoorW.PrintMore
set_option linter.unusedVariables false
set_option linter.unusedSimpArgs false

theorem lexS_err : ∀ (n p : Nat) (s : List UInt8) (q : Nat) (e : Int), s.length ≤ n → lexS p s = .error (q, e) → q ≤ p + s.length ∧ e ≠ 0
  | n, p, s, q, e, hn, h => by
    cases way s with
    | text _ hn' => rw [lexS_text hn'] at h; cases h
    | open_ t r hn' hr => rw [lexS_open hn' hr] at h; cases h; exact ⟨by simp <;> omega, by decide⟩
    | dir t u r hn' hu =>
      rw [lexS_dir hn' hu] at h
      split at h
      · cases hl : lexS (p + t.length + u.length + 4) r with
        | ok l => rw [hl] at h; cases h
        | error x =>
          rw [hl] at h
          cases h
          cases n with
          | zero => simp at hn
          | succ n =>
            have := lexS_err n _ r q e (by simp at hn; omega) hl
            exact ⟨by simp <;> omega, this.2⟩
      · rename_i h0
        cases h
        exact ⟨by simp <;> omega, h0⟩
/-- Lex answers or refuses. -/
theorem lexF_cases (s : ByteArray) : (∃ L : List T5, s.size ≤ 65536 ∧ lexS 0 s.data.toList = .ok L ∧ lexF s = (L.map tokS, (s.size : Int), 0)) ∨ (∃ n e, lexF s = ([], n, e) ∧ e ≠ 0 ∧ 0 ≤ n ∧ n ≤ s.size) := by
  by_cases hs : (s.size : Int) > 65536
  · exact .inr ⟨0, 6, if_pos hs, by decide, by omega, by omega⟩
  · rw [lexF_small (by omega)]
    cases h : lexS 0 s.data.toList with
    | ok L => exact .inl ⟨L, by omega, rfl, rfl⟩
    | error x =>
      obtain ⟨q, e⟩ := x
      have := lexS_err _ 0 _ q e (Nat.le_refl _) h
      rw [data_length] at this
      exact .inr ⟨q, e, rfl, this.2, by omega, by omega⟩
theorem rd_T28_at (l : List S28) (i : Nat) (h : i < l.length) : rd_T28 l (i : Int) = l[i] := by simp [rd_T28, List.getD_eq_getElem?_getD, h]
theorem alive_any (w : World) (hG : GS w) : Calls Tryd.prog 14 #[] w fun e w' => e = .returned (.bool true) ∧ Below w.heap.size w w' := tmplpipelaw11_alive.calls true w hG alive_true

/-- What is known of the i-th token of a source. -/
structure TkAt (s : ByteArray) (x : T5) : Prop where
  lt : x.1 < s.size
  txt : x.2.1 = 0 → x.1 + x.2.2.1.length ≤ s.size ∧ s.extract x.1 (x.1 + x.2.2.1.length) = ⟨x.2.2.1.toArray⟩
  dir : x.2.1 ≠ 0 → bt s x.1 = 123
theorem tkAt {s : ByteArray} {L : List T5} (h : lexS 0 s.data.toList = .ok L) (i : Nat) (hi : i < L.length) : TkAt s L[i] := by
  have hO := (offs_ok s.data.toList _ 0 _ L (Nat.le_refl _) (by simp) (Nat.zero_le _) h).1
  obtain ⟨h1, h2, h3⟩ := hO.at_ i hi
  rw [data_length] at h1
  refine ⟨h1, fun e => ?_, fun e => ?_⟩
  · obtain ⟨r, hr⟩ := h2 e
    have hl := congrArg List.length hr
    rw [List.length_drop, data_length, List.length_append] at hl
    exact ⟨by omega, byteBack' _ (ext_at' s _ hr)⟩
  · obtain ⟨r, hr⟩ := h3 e
    obtain ⟨b, q, e1, e2, _⟩ := drop_btL s (L[i].1 : Int) (by omega) (by omega)
    rw [Int.toNat_natCast, hr] at e1
    cases e1
    exact e2
where
  ext_at' (s : ByteArray) (a : Nat) {t u : List UInt8} (h : s.data.toList.drop a = t ++ u) : (s.extract a (a + t.length)).data.toList = t := by
    rw [Lib.extract_data, h, Nat.add_sub_cancel_left, List.take_left]
  byteBack' (x : ByteArray) {l : List UInt8} (h : x.data.toList = l) : x = ⟨l.toArray⟩ := by
    obtain ⟨⟨d⟩⟩ := x
    simp only at h
    rw [h]
theorem tkNext {s : ByteArray} {L : List T5} (h : lexS 0 s.data.toList = .ok L) (i : Nat) (hi : i + 1 < L.length) : L[i].1 < L[i + 1].1 ∧ ¬ (L[i].2.1 = 0 ∧ L[i + 1].2.1 = 0) :=
  (offs_ok s.data.toList _ 0 _ L (Nat.le_refl _) (by simp) (Nat.zero_le _) h).1.next i hi
theorem tkFirst {s : ByteArray} {L : List T5} (h : lexS 0 s.data.toList = .ok L) (hi : 0 < L.length) : L[0].1 = 0 := by
  have := (offs_ok s.data.toList _ 0 _ L (Nat.le_refl _) (by simp) (Nat.zero_le _) h).2.1
  cases L with
  | nil => simp at hi
  | cons x xs => exact this x xs rfl
theorem tkNone {s : ByteArray} {L : List T5} (h : lexS 0 s.data.toList = .ok L) : L = [] ↔ s.data.toList = [] := (offs_ok s.data.toList _ 0 _ L (Nat.le_refl _) (by simp) (Nat.zero_le _) h).2.2

def OwRel (L : List T5) (w : World) (v : Value) (wr : World) : Prop := ∃ i : Nat, i ≤ L.length ∧ v = .int .i64 i ∧ Below w.heap.size w wr
set_option maxHeartbeats 2000000 in
set_option maxRecDepth 100000 in
theorem lexOffsets_walk (s : ByteArray) (w : World) (hG : GS w) : Calls Tryd.prog 4 #[.string s] w fun e w' => e = .returned (.bool true) ∧ Below w.heap.size w w' := by
  rcases lexF_cases s with ⟨L, hz, hL, hF⟩ | ⟨n, en, hF, he, h0, h1⟩
  case inr =>
    have hlx := lex_Lex.calls s [] n en w hG (by unfold lex_Lex.f; rw [hF])
    have he1 : (en != 0) = true := by rw [bne_iff_ne]; exact he
    have he2 : (en == 0) = false := by rw [beq_eq_false_iff_ne]; exact he
    have hn0 : decide (0 ≤ n) = true := decide_eq_true h0
    have hn1 : decide (n ≤ (s.size : Int)) = true := decide_eq_true h1
    replace hlx := Aside0.mk hlx
    go_enter Tryd.func4, Tryd.ntmps4
    go_wp2_with fail
    refine hlx.out.mono ?_
    rintro e w1 ⟨v, rfl, _, HB⟩
    have hG1 := Aside0.mk (hG.below HB)
    replace HB := Aside0.mk HB
    clear hlx
    by_cases h5 : (5000 : Int) < s.size
    · have hb5 : decide ((5000 : Int) < s.size) = true := decide_eq_true h5
      go_wp2_with fail
      refine (alive_any _ hG1.out).mono ?_
      rintro e w2 ⟨rfl, HB2⟩
      go_wp2
      go_ret
      exact ⟨rfl, below_step HB.out HB2⟩
    · have hb5 : decide ((5000 : Int) < s.size) = false := decide_eq_false h5
      go_wp2_with fail
      refine (alive_any _ hG1.out).mono ?_
      rintro e w2 ⟨rfl, HB2⟩
      go_wp2
      go_ret
      exact ⟨rfl, below_step HB.out HB2⟩
  have hlx := lex_Lex.calls s (L.map tokS) (s.size : Int) 0 w hG (by unfold lex_Lex.f; rw [hF])
  replace hlx := Aside0.mk hlx
  go_enter Tryd.func4, Tryd.ntmps4
  go_wp2_with fail
  refine hlx.out.mono ?_
  rintro e w1 ⟨v, rfl, HO, HB⟩
  obtain ⟨A, c, rfl⟩ := Kd.R_slice HO
  have hG1 := Aside0.mk (hG.below HB)
  have HC := Aside0.mk (Kd.R_reads' HO).2.2
  have hm := Kd.C_max HC.out
  rw [List.length_map] at hm HC
  clear HO
  replace HB := Aside0.mk HB
  clear hlx
  by_cases h5 : (5000 : Int) < s.size
  · have hb5 : decide ((5000 : Int) < s.size) = true := decide_eq_true h5
    go_wp2_with fail
    refine (alive_any _ hG1.out).mono ?_
    rintro e w2 ⟨rfl, HB2⟩
    go_wp2
    go_ret
    exact ⟨rfl, below_step HB.out HB2⟩
  have hb5 : decide ((5000 : Int) < s.size) = false := decide_eq_false h5
  go_wp2
  go_loopw [38] (fun v wr => OwRel L w1 v wr) (fun v _ => L.length - (intOf v).toNat)
  case atStart => exact ⟨0, Nat.zero_le _, rfl, Below.refl _ _⟩
  case round =>
    obtain ⟨i, hi, rfl, HB1⟩ := hrel
    replace HB1 := Aside0.mk HB1
    by_cases hlt : i < L.length
    case neg =>
      obtain rfl : i = L.length := by omega
      have hnil : L = [] ↔ s.data.toList = [] := tkNone hL
      have hnil2 : ((L.length : Int) == 0) = s.toList.isEmpty := by
        rw [Bool.eq_iff_iff, beq_iff_eq, List.isEmpty_iff, ByteArray.toList_eq, ← hnil, ← List.length_eq_zero_iff]
        omega
      replace hnil2 := Aside0.mk hnil2
      go_wp2_with fail
      refine (alive_any _ (hG1.out.below HB1.out)).mono ?_
      rintro e w2 ⟨rfl, HB2⟩
      replace HB := Aside0.mk (below_step (below_step HB.out HB1.out) HB2)
      cases he : s.toList.isEmpty with
      | true =>
        have h0 := hnil2.out
        rw [he] at h0
        have e1 : s.toList = [] := List.isEmpty_iff.1 he
        go_wp2
        go_ret
        exact ⟨rfl, HB.out⟩
      | false =>
        have h0 := hnil2.out
        rw [he] at h0
        go_wp2
        go_ret
        exact ⟨rfl, HB.out⟩
    obtain ⟨ad, rfl, x0, x1, x2, x3, x4⟩ := at_T28 (Kd.C_below HC.out HB1.out) (i : Int) (by omega) (by omega)
    have hli : i < (L.map tokS).length := by rw [List.length_map]; exact hlt
    rw [rd_T28_at _ i hli, List.getElem_map] at x0 x1 x2 x3 x4
    have hT := tkAt hL i hlt
    simp only [Int.toNat_natCast] at x0 x1 x2 x3 x4
    by_cases hi0 : i = 0
    case pos =>
      subst hi0
      have hp0 := tkFirst hL hlt
      obtain ⟨bb, oo, ss⟩ := ad
      simp only [Addr.add, Nat.zero_mul, if_true] at x0 x1 x2 x3 x4
      generalize L[0] = x at *
      obtain ⟨p, k, S, P, hh⟩ := x
      obtain ⟨hlt2, htx, hdr⟩ := hT
      dsimp only at hp0 hlt2 htx hdr
      subst hp0
      dsimp only [tokS] at x0 x1 x2 x3 x4
      have g1 : decide ((s.size : Int) ≤ 0) = false := decide_eq_false (by omega)
      have g1' : ¬ s.size = 0 := by omega
      by_cases hk : k = 0
      · subst hk
        obtain ⟨t1, t2⟩ := htx rfl
        generalize hTT : (⟨S.toArray⟩ : ByteArray) = T at *
        have hTz : T.size = S.length := by rw [← hTT]; exact List.size_toArray ..
        rw [← hTz] at t1 t2
        have g2 : decide ((s.size : Int) < T.size) = false := decide_eq_false (by omega)
        have g2' : decide (s.size < T.size) = false := decide_eq_false (by omega)
        have g3 : decide ((T.size : Int) ≤ s.size) = true := decide_eq_true (by omega)
        have g3' : T.size ≤ s.size := by omega
        have g4 : s.extract 0 T.size = T := by simpa using t2
        clear hTz hTT t1 t2 htx hdr
        go_wp2
        go_quiet (fail)
        go_wp2
        go_quiet (fail)
        go_wp2
        go_roundw
        case rel => exact ⟨0 + 1, by omega, by simp [intOf], by repeat (first | exact HB1.out | apply below_alloc | apply pw_below_drewN | apply below_drew1)⟩
        case measure => simp [intOf]; omega
      · have hb := hdr hk
        have hx : ∀ h : 0 < s.size, ((s[0]'h).toNat : Int) = 123 := fun h => (bt_at s 0 h).trans hb
        have hk1 : (k == 0) = false := by rw [beq_eq_false_iff_ne]; exact hk
        have hk2 : (k != 0) = true := by rw [bne_iff_ne]; exact hk
        clear htx hdr hb
        go_wp2
        go_quiet (fail)
        go_wp2
        go_quiet (fail)
        go_wp2
        go_roundw
        case rel => exact ⟨0 + 1, by omega, by simp [intOf], by repeat (first | exact HB1.out | apply below_alloc | apply pw_below_drewN | apply below_drew1)⟩
        case measure => simp [intOf]; omega
    case neg =>
      obtain ⟨j, rfl⟩ : ∃ j, i = j + 1 := ⟨i - 1, by omega⟩
      obtain ⟨hn1, hn2⟩ := tkNext hL j hlt
      obtain ⟨ad2, had, y0, y1, y2, y3, y4⟩ := at_T28 (Kd.C_below HC.out HB1.out) (j : Int) (by omega) (by omega)
      cases had
      have hlj : j < (L.map tokS).length := by rw [List.length_map]; omega
      rw [rd_T28_at _ j hlj, List.getElem_map] at y0 y1 y2 y3 y4
      simp only [Int.toNat_natCast] at y0 y1 y2 y3 y4
      generalize L[j + 1] = x at *
      generalize L[j] = y at *
      obtain ⟨p, k, S, P, hh⟩ := x
      obtain ⟨py, ky, Sy, Py, hy⟩ := y
      obtain ⟨hlt2, htx, hdr⟩ := hT
      dsimp only at hlt2 htx hdr hn1 hn2
      dsimp only [tokS] at x0 x1 x2 x3 x4 y0 y1 y2 y3 y4
      have g0 : ((j : Int) + 1 == 0) = false := by rw [beq_eq_false_iff_ne]; omega
      have g00 : decide (0 < (j : Int) + 1) = true := decide_eq_true (by omega)
      have t2I : k = 0 → s.extract (p : Int).toNat ((p : Int) + S.length).toNat = ⟨S.toArray⟩ := fun e => by
        rw [Int.toNat_natCast, show ((p : Int) + S.length).toNat = p + S.length by omega]; exact (htx e).2
      have t1I : k = 0 → (p : Int) + S.length ≤ s.size := fun e => by have := (htx e).1; omega
      have hxI : k ≠ 0 → ∀ h : (p : Int).toNat < s.size, ((s[(p : Int).toNat]'h).toNat : Int) = 123 := fun e h => (bt_at s (p : Int) h).trans (hdr e)
      have hpl : (p : Int) < s.size := by omega
      have hpy : (py : Int) < p := by omega
      have hp0 : (0 : Int) ≤ p := by omega
      clear htx hdr hn1 hlt2
      generalize (p : Int) = PI at *
      have g1 : decide ((s.size : Int) ≤ PI) = false := decide_eq_false (by omega)
      have g5 : decide (PI ≤ py) = false := decide_eq_false (by omega)
      have q0 : decide (0 ≤ PI) = true := decide_eq_true hp0
      have q1 : decide (PI < (s.size : Int)) = true := decide_eq_true hpl
      have hj1 : (j : Int) < (L.length : Int) := by omega
      have hj2 : j < L.length := by omega
      have hj4 : wrap64 (j : Int) = (j : Int) := by unfold wrap64; omega
      have hj5 : IntKind.i64.wrap (j : Int) = (j : Int) := by rw [i64_w]; exact hj4
      have hby0 := World.block_lt_of_cell? _ _ y0
      have hby1 := World.block_lt_of_cell? _ _ y1
      clear hi0 y2 y3 y4
      by_cases hk : k = 0
      · subst hk
        have t1 := t1I rfl
        have t2 := t2I rfl
        have hky : (ky == 0) = false := by rw [beq_eq_false_iff_ne]; exact fun e => hn2 ⟨e, rfl⟩
        generalize hTT : (⟨S.toArray⟩ : ByteArray) = T at *
        have hTz : T.size = S.length := by rw [← hTT]; exact List.size_toArray ..
        rw [← hTz] at t1 t2
        have g2 : decide ((s.size : Int) - PI < T.size) = false := decide_eq_false (by omega)
        have g3 : decide (PI + T.size ≤ s.size) = true := decide_eq_true (by omega)
        have hsub : IntKind.i64.wrap ((s.size : Int) - PI) = (s.size : Int) - PI := by rw [IntKind.wrap_i64]; omega
        have hadd : IntKind.i64.wrap (PI + T.size) = PI + T.size := by rw [IntKind.wrap_i64]; omega
        have d1 : decide (PI ≤ PI + T.size) = true := decide_eq_true (by omega)
        have d2 : 0 ≤ PI + T.size := by omega
        clear hn2 hTT hTz t1I t2I hxI
        go_wp2
        go_quiet (fail)
        go_wp2
        go_quiet (fail)
        go_wp2
        go_roundw
        case rel => exact ⟨j + 1 + 1, by omega, by simp [intOf], by repeat (first | exact HB1.out | apply below_alloc | apply pw_below_drewN | apply below_drew1)⟩
        case measure => simp [intOf]; omega
      · have hx := hxI hk
        have hk1 : (k == 0) = false := by rw [beq_eq_false_iff_ne]; exact hk
        have hk2 : (k != 0) = true := by rw [bne_iff_ne]; exact hk
        clear hn2 t1I t2I hxI
        go_wp2
        go_quiet (fail)
        go_wp2
        go_quiet (fail)
        go_wp2
        go_roundw
        case rel => exact ⟨j + 1 + 1, by omega, by simp [intOf], by repeat (first | exact HB1.out | apply below_alloc | apply pw_below_drewN | apply below_drew1)⟩
        case measure => simp [intOf]; omega
end Go.Proofs.YtgdpojleejdfaaaDoor.Px
