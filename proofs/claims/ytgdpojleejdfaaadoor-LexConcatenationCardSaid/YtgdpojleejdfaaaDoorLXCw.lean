import Derived.Test.YtgdpojleejdfaaaDoorLXCt
import Derived.Test.YtgdpojleejdfaaaDoorLXMt
/- The walk of tmplpipelaw11.LexConcatenation. -/
namespace Go.Proofs.YtgdpojleejdfaaaDoor.Px
open Go.RowKit Go.Proofs.YtgdpojleejdfaaaDoorW.PrintWords Go.Proofs.YtgdpojleejdfaaaDoorW.PrintLast Go.Proofs.YtgdpojleejdfaaaDoorW.PrintMore
set_option linter.unusedVariables false
set_option linter.unusedSimpArgs false
def CwRel (a : ByteArray) (L M : List T5) (w : World) (v11 v63 : Value) (wr : World) : Prop :=
  ∃ i : Nat, i ≤ M.length ∧ v63 = .int .i64 i ∧ Kd.R k28 28 wr w.heap.size (fun _ => True) v11 ((mergeT L ((shiftT a.size M).take i)).map tokS) ∧ Below w.heap.size w wr
theorem mergeT_step {a : ByteArray} {L M : List T5} {i : Nat} (h : i < M.length) (hc : 1 ≤ i ∨ L = [] ∨ M[i].2.1 ≠ 0 ∨ ∃ L' z, L = L' ++ [z] ∧ z.2.1 ≠ 0) :
    (mergeT L ((shiftT a.size M).take (i + 1))).map tokS = (mergeT L ((shiftT a.size M).take i)).map tokS ++ [tokS (M[i].1 + a.size, M[i].2)] := by
  have hS : (shiftT a.size M).length = M.length := by simp [shiftT]
  have hX : (shiftT a.size M)[i]'(by rw [hS]; exact h) = (M[i].1 + a.size, M[i].2) := by simp [shiftT]
  rw [List.take_succ_eq_append_getElem (by rw [hS]; exact h), hX]
  by_cases hi : 1 ≤ i
  · rw [mergeT_snoc _ _ _ (by intro h0; have := congrArg List.length h0; rw [List.length_take, Nat.min_eq_left (by rw [hS]; omega)] at this; simp at this; omega), List.map_append]; rfl
  · obtain rfl : i = 0 := by omega
    rw [List.take_zero, List.nil_append, mergeT_nil]
    rcases List.eq_nil_or_concat L with rfl | ⟨L', z, rfl⟩
    · rfl
    · rw [List.concat_eq_append] at hc ⊢
      rw [mergeT_last, if_neg]
      · simp
      · rintro ⟨h1, h2⟩
        rcases hc with hc | hc | hc | ⟨L2, z2, hc, hz⟩
        · omega
        · simp at hc
        · exact hc h2
        · have := congrArg List.getLast? hc
          simp at this
          exact hz (this ▸ h1)
set_option maxHeartbeats 4000000 in
set_option maxRecDepth 100000 in
theorem lexConcat_walk (a b : ByteArray) (w : World) (hG : GS w) (ha : a.size ≤ 140737488351232) (hb : b.size ≤ 140737488351232) : Calls Tryd.prog 5 #[.string a, .string b] w fun e w' => e = .returned (.bool true) ∧ Below w.heap.size w w' := by
  have hadd : IntKind.i64.wrap ((a.size : Int) + b.size) = (a.size : Int) + b.size := by rw [IntKind.wrap_i64]; omega
  have hG0 := Aside0.mk hG
  clear hG
  by_cases h5 : (5000 : Int) < (a.size : Int) + b.size
  case pos =>
    have hb5 : decide ((5000 : Int) < (a.size : Int) + b.size) = true := decide_eq_true h5
    go_enter Tryd.func5, Tryd.ntmps5
    go_wp2_with fail
    refine (alive_any _ hG0.out).mono ?_
    rintro e w2 ⟨rfl, HB2⟩
    go_wp2
    go_ret
    exact ⟨rfl, HB2⟩
  have hsz : a.size + b.size ≤ 5000 := by omega
  have hb5 : decide ((5000 : Int) < (a.size : Int) + b.size) = false := decide_eq_false h5
  have hsuf := Aside0.mk (suffix_is a (by omega))
  clear h5
  by_cases hlast : a.data.toList.getLast? = some 123
  case pos =>
    rw [decide_eq_true hlast] at hsuf
    go_enter Tryd.func5, Tryd.ntmps5
    go_wp2_with fail
    refine (strings_HasSuffix.calls a _ true _ hsuf.out).mono ?_
    rintro e w1 ⟨rfl, ⟨nd, rfl⟩⟩
    go_wp2_with fail
    refine (alive_any _ (hG0.out.below (pw_below_drewN (Below.refl _ _) nd))).mono ?_
    rintro e w2 ⟨rfl, HB2⟩
    go_wp2
    go_ret
    exact ⟨rfl, below_step (pw_below_drewN (Below.refl _ _) nd) HB2⟩
  rw [decide_eq_false hlast] at hsuf
  go_enter Tryd.func5, Tryd.ntmps5
  go_wp2_with fail
  refine (strings_HasSuffix.calls a _ false _ hsuf.out).mono ?_
  rintro e w1 ⟨rfl, ⟨nd, rfl⟩⟩
  have HB0 : Aside0 (Below w.heap.size w (w.drewN nd)) := ⟨pw_below_drewN (Below.refl _ _) nd⟩
  generalize w.drewN nd = w1 at *
  clear hsuf
  rcases lexF_cases a with ⟨L, _, hL, eL⟩ | ⟨n, ea, eL, he, _⟩
  case inr =>
    have hlx := Aside0.mk (lex_Lex.calls a [] n ea w1 (hG0.out.below HB0.out) (by unfold lex_Lex.f; rw [eL]))
    obtain ⟨m, eb, lb, eM⟩ : ∃ m eb lb, lexF b = (lb, m, eb) := ⟨_, _, _, rfl⟩
    have he1 : (ea != 0) = true := by rw [bne_iff_ne]; exact he
    clear he eL
    go_wp2_with fail
    refine hlx.out.mono ?_
    rintro e w2 ⟨v, rfl, _, HB⟩
    have HB2 := Aside0.mk (below_step HB0.out HB)
    clear HB hlx
    go_wp2_with fail
    refine (lex_Lex.calls b lb m eb _ (hG0.out.below HB2.out) (by unfold lex_Lex.f; rw [eM])).mono ?_
    rintro e w3 ⟨v, rfl, _, HB⟩
    have HB3 := Aside0.mk (below_step HB2.out HB)
    clear HB eM
    go_wp2_with fail
    refine (alive_any _ (hG0.out.below HB3.out)).mono ?_
    rintro e w4 ⟨rfl, HB4⟩
    go_wp2
    go_ret
    exact ⟨rfl, below_step HB3.out HB4⟩
  have hlx := Aside0.mk (lex_Lex.calls a (L.map tokS) a.size 0 w1 (hG0.out.below HB0.out) (by unfold lex_Lex.f; rw [eL]))
  clear eL
  go_wp2_with fail
  refine hlx.out.mono ?_
  rintro e w2 ⟨v, rfl, HO, HB⟩
  obtain ⟨A, c, rfl⟩ := Kd.R_slice HO
  have HL := (Kd.R_reads' HO).2.2
  have hcL := (Kd.R_reads' HO).2.1
  rw [List.length_map] at HL hcL ⊢
  replace HL := Aside0.mk HL
  have HB2 := Aside0.mk (below_step HB0.out HB)
  clear HB hlx HO HB0
  rcases lexF_cases b with ⟨M, _, hM, eM⟩ | ⟨m, eb, eM, he, _⟩
  case inr =>
    have hlx := Aside0.mk (lex_Lex.calls b [] m eb w2 (hG0.out.below HB2.out) (by unfold lex_Lex.f; rw [eM]))
    have he1 : (eb != 0) = true := by rw [bne_iff_ne]; exact he
    clear he eM
    go_wp2_with fail
    refine hlx.out.mono ?_
    rintro e w3 ⟨v, rfl, _, HB⟩
    have HB3 := Aside0.mk (below_step HB2.out HB)
    clear HB hlx
    go_wp2_with fail
    refine (alive_any _ (hG0.out.below HB3.out)).mono ?_
    rintro e w4 ⟨rfl, HB4⟩
    go_wp2
    go_ret
    exact ⟨rfl, below_step HB3.out HB4⟩
  have hlx := Aside0.mk (lex_Lex.calls b (M.map tokS) b.size 0 w2 (hG0.out.below HB2.out) (by unfold lex_Lex.f; rw [eM]))
  clear eM
  go_wp2_with fail
  refine hlx.out.mono ?_
  rintro e w3 ⟨v, rfl, HO, HB⟩
  obtain ⟨B, d, rfl⟩ := Kd.R_slice HO
  have HM := (Kd.R_reads' HO).2.2
  have hcM := (Kd.R_reads' HO).2.1
  rw [List.length_map] at HM hcM ⊢
  replace HM := Aside0.mk HM
  replace HL := Aside0.mk (Kd.C_below HL.out HB)
  have HB3 := Aside0.mk (below_step HB2.out HB)
  clear HB hlx HO HB2 hb5 hadd
  have sL := Aside0.mk (small_of hL)
  have sM := Aside0.mk (small_of hM)
  have hfin := Aside0.mk (cat_lex hsz hlast hL hM)
  have hlL : L.length ≤ 5000 := by have := sL.out.len; omega
  have hlM : M.length ≤ 5000 := by have := sM.out.len; omega
  clear hL hM hlast
  go_wp2_with (first
    | ((with_reducible refine gate_dst (N := 58) rfl ?_); refine Kd.R_lit k28 _ 28 ?hg (N := 58) ?hd (xs := ([] : List (S28))) (inner := []) (ok := fun _ => True) (okp := fun _ => True) ?hr ?hp (fun _ hk => hk) trivial (Below.refl _ _) (Nat.le_refl _) (by simp) ?_; (case hd => rfl); (case hg => rfl); (case hr => first | (go_simp; done) | (go_simp; rfl)); (case hp => exact (Reps.none _ _)); intro v58 w4 HO4 HB4 _ _; replace HO4 := Aside0.mk HO4; replace HB4 := Aside0.mk HB4; have HL4 := Aside0.mk (Kd.C_below HL.out HB4.out))
    | ((with_reducible refine gate_builtin (b := .append) (xs := #[.tmp 58, .tmp 59]) rfl ?_); at_builtin; refine Kd.R_append_rows k28 (w0 := w3) w3.heap.size rfl (.tmp 58) (.tmp 59) 23 28 (.agg #[(.int .i64 0), (.int .i64 0), (.string ⟨#[]⟩), (.string ⟨#[]⟩), (.bool false)]) 56 rfl Tryd.underlying23 info28 rfl (by decide) (by omega) v58 [] (L.map tokS) _ _ _ (fun _ => True) (fun _ => False) rfl rfl HO4.out HL4.out (fun _ _ h => h) (fun _ h => h.elim) (fun _ _ => trivial) HB4.out HB4.out.size (by simp only [List.length_nil]; omega) ?_; intro v11 w5 HO5 HB5 _ _; rw [List.nil_append] at HO5; replace HO5 := Aside0.mk HO5; replace HB5 := Aside0.mk HB5; clear HO4 HB4 HL4))
  clear HL hcL
  have hm := Kd.C_max HM.out
  go_loopw [11, 63] (fun v11 v63 wr => CwRel a L M w3 v11 v63 wr) (fun _ v63 _ => M.length - (intOf v63).toNat)
  case atStart => exact ⟨0, Nat.zero_le _, rfl, by rw [List.take_zero, mergeT_nil]; exact HO5.out, HB5.out⟩
  case round =>
    clear HO5 HB5
    obtain ⟨i, hi, rfl, HO, HB⟩ := hrel
    obtain ⟨A1, c1, rfl⟩ := Kd.R_slice HO
    have hn1 := mergeT_len L ((shiftT a.size M).take i)
    have hS : (shiftT a.size M).length = M.length := by simp [shiftT]
    have hn2 : ((shiftT a.size M).take i).length ≤ M.length := by rw [List.length_take, hS]; omega
    by_cases hlt : i < M.length
    case neg =>
      obtain rfl : i = M.length := by omega
      have hWl2 : (mergeT L (List.take M.length (shiftT a.size M))).length = ((mergeT L (shiftT a.size M)).map tokS).length := by rw [List.take_of_length_le (by rw [hS]; exact Nat.le_refl _), List.length_map]
      rw [List.take_of_length_le (by rw [hS]; exact Nat.le_refl _)] at HO
      generalize hW : (mergeT L (shiftT a.size M)).map tokS = W at *
      have hWl : W.length ≤ 10000 := by rw [← hW, List.length_map]; have := mergeT_len L (shiftT a.size M); omega
      obtain ⟨q1, q2, HC⟩ := Kd.R_reads' HO
      clear hn1 hn2 hS hW HO
      replace hWl2 := Aside0.mk hWl2
      replace HC := Aside0.mk HC
      replace HB := Aside0.mk (below_step HB3.out HB)
      rw [Int.natCast_add] at hfin
      have hcat : (a ++ b).size = a.size + b.size := ByteArray.size_append
      have hlx := Aside0.mk (lex_Lex.calls (a ++ b) W _ 0 wr (hG0.out.below HB.out) (by unfold lex_Lex.f; rw [hfin.out]))
      have hszI : (a.size : Int) + b.size ≤ 5000 := by omega
      have hadd : IntKind.i64.wrap ((a.size : Int) + b.size) = (a.size : Int) + b.size := by rw [IntKind.wrap_i64]; omega
      have hbig : a.size + b.size ≤ 9223372036854775807 := by omega
      clear hfin
      go_wp2_with fail
      refine hlx.out.mono ?_
      rintro e w6 ⟨v, rfl, HO6, HB6⟩
      obtain ⟨A6, c6, rfl⟩ := Kd.R_slice HO6
      obtain ⟨q3, q4, HC6⟩ := Kd.R_reads' HO6
      replace HC := Aside0.mk (Kd.C_below HC.out HB6)
      replace HB := Aside0.mk (below_step HB.out HB6)
      clear HO6 HB6 hlx
      replace HC6 := Aside0.mk HC6
      go_wp2_with fail
      refine (alive_any _ (hG0.out.below HB.out)).mono ?_
      rintro e w7 ⟨rfl, HB7⟩
      replace HC := Aside0.mk (Kd.C_below HC.out HB7)
      replace HC6 := Aside0.mk (Kd.C_below HC6.out HB7)
      replace HB := Aside0.mk (below_step HB.out HB7)
      clear HB7
      go_wp2_with fail
      rw [hWl2.out]
      refine (lex_Token.calls (W.length + 1) A6 c6 W A1 c1 W true _ HC6.out q4 HC.out q2 (tokF_refl W (by omega) _ (by omega))).mono ?_
      rintro e w8 ⟨rfl, ⟨nd8, rfl⟩⟩
      go_wp2
      go_ret
      exact ⟨rfl, pw_below_drewN HB.out nd8⟩
    obtain ⟨ad, rfl, x0, x1, x2, x3, x4⟩ := at_T28 (Kd.C_below HM.out HB) (i : Int) (by omega) (by omega)
    rw [rd_map28 M i hlt] at x0 x1 x2 x3 x4
    have hstep := Aside0.mk (@mergeT_step a L M i hlt)
    have hat := sM.out.at_ M[i] (List.getElem_mem hlt)
    have hkt := sM.out.txt M[i] (List.getElem_mem hlt)
    have hmer : i = 0 → ∀ L' z, L = L' ++ [z] → M[i].2.1 = 0 → z.2.1 = 0 → mergeT L ((shiftT a.size M).take (i + 1)) = L' ++ [(z.1, z.2.1, z.2.2.1 ++ M[i].2.2.1, z.2.2.2)] := fun h0 L' z hL h1 h2 => by
      subst h0
      have hX : (shiftT a.size M)[0]'(by rw [hS]; exact hlt) = (M[0].1 + a.size, M[0].2) := by simp [shiftT]
      rw [List.take_succ_eq_append_getElem (by rw [hS]; exact hlt), hX, List.take_zero, List.nil_append, hL, mergeT_last, if_pos ⟨h2, h1⟩]
    have hX0 : i = 0 → (mergeT L ((shiftT a.size M).take i)).map tokS = L.map tokS := fun h0 => by subst h0; rw [List.take_zero, mergeT_nil]
    have hXl : ((mergeT L ((shiftT a.size M).take i)).map tokS).length ≤ 10000 := by rw [List.length_map]; omega
    simp only [Int.toNat_natCast] at x0 x1 x2 x3 x4
    clear hn1 hn2 hS
    generalize (mergeT L ((shiftT a.size M).take i)).map tokS = X at *
    generalize M[i] = x at *
    obtain ⟨p, k, S, P, hh⟩ := x
    dsimp only [tokS] at x0 x1 x2 x3 x4
    dsimp only at hat hkt hmer
    have hpw : IntKind.i64.wrap ((p : Int) + a.size) = (p : Int) + a.size := by rw [IntKind.wrap_i64]; omega
    have hbx := World.block_lt_of_cell? _ _ x1
    have hi1 : (i : Int) < (M.length : Int) := by omega
    replace hmer := Aside0.mk hmer
    replace hX0 := Aside0.mk hX0
    replace hkt := Aside0.mk hkt
    replace HB := Aside0.mk HB
    replace HO := Aside0.mk HO
    by_cases hi0 : 1 ≤ i
    · have g0 : ((i : Int) == 0) = false := by rw [beq_eq_false_iff_ne]; omega
      have hst := Aside0.mk (hstep.out (.inl hi0))
      clear hi0 hstep hX0 hmer
      go_wp2_with (at_builtin; go_loud (refine Kd.R_append k28 w3.heap.size rfl _ _ 23 28 _ 56 rfl Tryd.underlying23 info28 rfl (by decide) (by decide) (.slice A1 X.length c1) X ⟨k, (p : Int) + a.size, ⟨S.toArray⟩, ⟨P.toArray⟩, hh⟩ [.int .i64 k, .int .i64 ((p : Int) + a.size), .string ⟨S.toArray⟩, .string ⟨P.toArray⟩, .bool hh] (fun _ => True) (fun q => some q ≠ (.slice A1 X.length c1 : Value).ownBlock) rfl (by rw [World.size_alloc]; rfl) (k28_mkM _ _ _ ⟨k, (p : Int) + a.size, ⟨S.toArray⟩, ⟨P.toArray⟩, hh⟩) (fun q hq => ⟨trivial, hq⟩) (fun _ _ => trivial) (Kd.R_alloc HO.out _) (below_alloc HB.out _) (Nat.le_trans HB.out.size (by simp)) (by omega) ?_; intro v1 w5 HO5 HB5 _ _; replace HO5 := Aside0.mk HO5; replace HB5 := Aside0.mk HB5))
      go_roundw
      case rel => exact ⟨i + 1, by omega, by simp [intOf], by rw [hst.out]; simpa [tokS] using HO5.out, HB5.out⟩
      case measure => simp [intOf]; omega
    obtain rfl : i = 0 := by omega
    obtain ⟨bb, oo, ss⟩ := ad
    simp only [Addr.add, Nat.zero_mul, if_true] at x0 x1 x2 x3 x4 hbx
    rcases List.eq_nil_or_concat L with hL0 | ⟨L', z, hL0⟩
    · have hst := Aside0.mk (hstep.out (.inr (.inl hL0)))
      obtain rfl : X = [] := by rw [hX0.out rfl, hL0]; rfl
      have hwm : IntKind.i64.wrap (-1) = -1 := by rw [IntKind.wrap_i64]; rfl
      clear hi0 hstep hX0 hmer hkt
      go_wp2_with (at_builtin; go_loud (refine Kd.R_append k28 w3.heap.size rfl _ _ 23 28 _ 56 rfl Tryd.underlying23 info28 rfl (by decide) (by decide) (.slice A1 0 c1) ([] : List S28) ⟨k, (p : Int) + a.size, ⟨S.toArray⟩, ⟨P.toArray⟩, hh⟩ [.int .i64 k, .int .i64 ((p : Int) + a.size), .string ⟨S.toArray⟩, .string ⟨P.toArray⟩, .bool hh] (fun _ => True) (fun q => some q ≠ (.slice A1 0 c1 : Value).ownBlock) rfl (by rw [World.size_alloc]; rfl) (k28_mkM _ _ _ ⟨k, (p : Int) + a.size, ⟨S.toArray⟩, ⟨P.toArray⟩, hh⟩) (fun q hq => ⟨trivial, hq⟩) (fun _ _ => trivial) (Kd.R_alloc HO.out _) (below_alloc HB.out _) (Nat.le_trans HB.out.size (by simp)) (by simp) ?_; intro v1 w5 HO5 HB5 _ _; replace HO5 := Aside0.mk HO5; replace HB5 := Aside0.mk HB5))
      all_goals first
        | exact ⟨⟨0 + 1, by omega, rfl, by rw [hst.out]; simpa [tokS] using HO5.out, HB5.out⟩, by simp [intOf]; omega⟩
        | (go_roundw
           case rel => exact ⟨v1, _, _, _, _, ⟨0 + 1, by omega, rfl, by (have h := hst.out; rw [hL0] at h; rw [h]; simpa [tokS] using HO5.out), HB5.out⟩, rfl, rfl, rfl, rfl, rfl⟩
           case measure => simp [intOf]; omega)
    rw [List.concat_eq_append] at hL0
    have hXL : X = (L' ++ [z]).map tokS := by rw [hX0.out rfl, hL0]
    have hXn : X.length = L'.length + 1 := by rw [hXL]; simp
    have q0 : decide (0 ≤ (X.length : Int) - 1) = true := decide_eq_true (by omega)
    have hwl : IntKind.i64.wrap ((X.length : Int) - 1) = (X.length : Int) - 1 := by rw [IntKind.wrap_i64]; omega
    by_cases hk0 : k = 0
    case neg =>
      have hk1 : (k == 0) = false := by rw [beq_eq_false_iff_ne]; exact hk0
      have hst := Aside0.mk (hstep.out (.inr (.inr (.inl hk0))))
      clear hi0 hstep hX0 hmer hkt hXL hXn hL0 hk0
      go_wp2_with (at_builtin; go_loud (refine Kd.R_append k28 w3.heap.size rfl _ _ 23 28 _ 56 rfl Tryd.underlying23 info28 rfl (by decide) (by decide) (.slice A1 X.length c1) X ⟨k, (p : Int) + a.size, ⟨S.toArray⟩, ⟨P.toArray⟩, hh⟩ [.int .i64 k, .int .i64 ((p : Int) + a.size), .string ⟨S.toArray⟩, .string ⟨P.toArray⟩, .bool hh] (fun _ => True) (fun q => some q ≠ (.slice A1 X.length c1 : Value).ownBlock) rfl (by rw [World.size_alloc]; rfl) (k28_mkM _ _ _ ⟨k, (p : Int) + a.size, ⟨S.toArray⟩, ⟨P.toArray⟩, hh⟩) (fun q hq => ⟨trivial, hq⟩) (fun _ _ => trivial) (Kd.R_alloc HO.out _) (below_alloc HB.out _) (Nat.le_trans HB.out.size (by simp)) (by omega) ?_; intro v1 w5 HO5 HB5 _ _; replace HO5 := Aside0.mk HO5; replace HB5 := Aside0.mk HB5))
      all_goals first
        | exact ⟨⟨0 + 1, by omega, rfl, by rw [hst.out]; simpa [tokS] using HO5.out, HB5.out⟩, by simp [intOf]; omega⟩
        | (go_roundw
           case rel => exact ⟨v1, _, _, _, _, ⟨0 + 1, by omega, rfl, by (have h := hst.out; rw [hL0] at h; rw [h]; simpa [tokS] using HO5.out), HB5.out⟩, rfl, rfl, rfl, rfl, rfl⟩
           case measure => simp [intOf]; omega)
    subst hk0
    have hz : rd_T28 X ((X.length : Int) - 1) = tokS z := by
      rw [show (X.length : Int) - 1 = ((L'.length : Nat) : Int) by omega, hXL, rd_T28_at _ _ (by simp)]; simp
    by_cases hkz : z.2.1 = 0
    case neg =>
      obtain ⟨ad2, rfl, z0, z1, z2, z3, z4⟩ := at_T28 (Kd.R_reads' HO.out).2.2 ((X.length : Int) - 1) (by omega) (by omega)
      rw [hz] at z0 z1 z2 z3 z4
      rw [show ((X.length : Int) - 1).toNat = X.length - 1 by omega] at z0 z1 z2 z3 z4
      have hb2 := World.block_lt_of_cell? _ _ z1
      have q1 : (X.length : Int) - 1 < X.length := by omega
      have q2 : decide ((X.length : Int) - 1 < X.length) = true := decide_eq_true q1
      have hst := Aside0.mk (hstep.out (.inr (.inr (.inr ⟨L', z, hL0, hkz⟩))))
      have hkz1 : ((tokS z).f0 == 0) = false := by rw [beq_eq_false_iff_ne]; exact hkz
      clear hi0 hstep hX0 hmer hkt hXL hXn hL0 hkz
      go_wp2_with (at_builtin; go_loud (refine Kd.R_append k28 w3.heap.size rfl _ _ 23 28 _ 56 rfl Tryd.underlying23 info28 rfl (by decide) (by decide) (.slice (some ad2) X.length c1) X ⟨0, (p : Int) + a.size, ⟨S.toArray⟩, ⟨P.toArray⟩, hh⟩ [.int .i64 0, .int .i64 ((p : Int) + a.size), .string ⟨S.toArray⟩, .string ⟨P.toArray⟩, .bool hh] (fun _ => True) (fun q => some q ≠ (.slice (some ad2) X.length c1 : Value).ownBlock) rfl (by rw [World.size_alloc]; rfl) (k28_mkM _ _ _ ⟨0, (p : Int) + a.size, ⟨S.toArray⟩, ⟨P.toArray⟩, hh⟩) (fun q hq => ⟨trivial, hq⟩) (fun _ _ => trivial) (Kd.R_alloc HO.out _) (below_alloc HB.out _) (Nat.le_trans HB.out.size (by simp)) (by omega) ?_; intro v1 w5 HO5 HB5 _ _; replace HO5 := Aside0.mk HO5; replace HB5 := Aside0.mk HB5))
      all_goals first
        | exact ⟨⟨0 + 1, by omega, rfl, by rw [hst.out]; simpa [tokS] using HO5.out, HB5.out⟩, by simp [intOf]; omega⟩
        | (go_roundw
           case rel => exact ⟨v1, _, _, _, _, ⟨0 + 1, by omega, rfl, by (have h := hst.out; rw [hL0] at h; rw [h]; simpa [tokS] using HO5.out), HB5.out⟩, rfl, rfl, rfl, rfl, rfl⟩
           case measure => simp [intOf]; omega)
    obtain ⟨g, cap, eg, hgb, hgl, cells, hgc⟩ := Kd.R_form HO.out (by omega)
    simp only [Value.slice.injEq, true_and] at eg
    obtain ⟨rfl, rfl⟩ := eg
    obtain ⟨cs, hcs, hM0, hcc, hfz⟩ := Kd.R_elem HO.out z28 ((X.length : Int) - 1) (by omega) (by omega)
    have hrd : X.getD ((X.length : Int) - 1).toNat z28 = tokS z := hz
    rw [hrd] at hM0
    obtain rfl := k28_openM hM0
    have hn1' : ((X.length : Int) - 1).toNat = X.length - 1 := by omega
    rw [hn1'] at hcc hfz
    have z0 : wr.cell? ⟨g, (X.length - 1) * 5, none⟩ = some (.int .i64 (tokS z).f0) := hcc 0 _ rfl
    have z1 : wr.cell? ⟨g, (X.length - 1) * 5 + 1, none⟩ = some (.int .i64 (tokS z).f1) := hcc 1 _ rfl
    have z2 : wr.cell? ⟨g, (X.length - 1) * 5 + 2, none⟩ = some (.string (tokS z).f2) := hcc 2 _ rfl
    have z2f : wr.frozen? ⟨g, (X.length - 1) * 5 + 2, none⟩ = false := hfz 2
    have hcc' := Aside0.mk hcc
    replace hM0 := Aside0.mk hM0
    clear hcc hfz hcs hgc hrd hn1'
    have hb2 := World.block_lt_of_cell? _ _ z1
    have q1 : (X.length : Int) - 1 < X.length := by omega
    have q2 : decide ((X.length : Int) - 1 < X.length) = true := decide_eq_true q1
    have hkz1 : ((tokS z).f0 == 0) = true := by rw [beq_iff_eq]; exact hkz
    have hzz := Aside0.mk hkz
    have hX1 : (1 : Int) ≤ (X.length : Int) := by omega
    have q0' : decide (1 ≤ (X.length : Int)) = true := decide_eq_true hX1
    have hzs : (tokS z).f2.size ≤ 5000 := by
      have h1 := sL.out.txt z (by rw [hL0]; simp) hkz
      have h2 : (tokS z).f2.size = z.2.2.1.length := by first | (rw [← data_length]; simp [tokS]; done) | (rw [← data_length]; done)
      omega
    have hSs : (⟨S.toArray⟩ : ByteArray).size ≤ 5000 := by
      have h1 := hkt.out rfl
      have h2 : (⟨S.toArray⟩ : ByteArray).size = S.length := by first | (rw [← data_length]; simp; done) | (rw [← data_length]; done)
      omega
    have hzS : (tokS z).f2.size + (⟨S.toArray⟩ : ByteArray).size ≤ 9223372036854775807 := by omega
    have hn1 : ((X.length : Int) - 1).toNat = X.length - 1 := by omega
    have hset : X.set (X.length - 1) ⟨(tokS z).f0, (tokS z).f1, (tokS z).f2 ++ ⟨S.toArray⟩, (tokS z).f3, (tokS z).f4⟩ = (mergeT L ((shiftT a.size M).take (0 + 1))).map tokS := by
      rw [hmer.out rfl L' z hL0 rfl hkz, hXn, hXL, List.map_append, List.map_append]
      have e : (⟨(tokS z).f0, (tokS z).f1, (tokS z).f2 ++ ⟨S.toArray⟩, (tokS z).f3, (tokS z).f4⟩ : S28) = tokS (z.1, z.2.1, z.2.2.1 ++ S, z.2.2.2) := by
        unfold tokS
        dsimp only
        first | (congr 1; done) | (congr 1; apply byteList; simp)
      rw [e]
      simp [List.set_append]
    have HR := (Kd.R_seg (okp := fun k => k ≠ g) HO.out ((X.length : Int) - 1) (by omega) (by omega) (c := [.int .i64 (tokS z).f0, .int .i64 (tokS z).f1, .string (tokS z).f2, .string (tokS z).f3, .bool (tokS z).f4]) (seg := [.string ((tokS z).f2 ++ ⟨S.toArray⟩)]) (j := 2) rfl (by rw [hn1]; exact hcc'.out) (show 2 + 1 ≤ 5 by decide) (x' := ⟨(tokS z).f0, (tokS z).f1, (tokS z).f2 ++ ⟨S.toArray⟩, (tokS z).f3, (tokS z).f4⟩) (k28_mkM _ _ _ ⟨(tokS z).f0, (tokS z).f1, (tokS z).f2 ++ ⟨S.toArray⟩, (tokS z).f3, (tokS z).f4⟩) (fun k hk => ⟨trivial, hk⟩)).1
    rw [hn1, hset] at HR
    have HRl : ((mergeT L ((shiftT a.size M).take (0 + 1))).map tokS).length = X.length := by rw [← hset, List.length_set]
    rw [show X.length = ((mergeT L ((shiftT a.size M).take (0 + 1))).map tokS).length from HRl.symm] at HR
    replace HR := Aside0.mk HR
    replace HRl := Aside0.mk HRl
    replace hset := Aside0.mk hset
    clear hkz hi0 hstep hXL hXn hn1 hL0 hX0 hmer
    go_wp2
    go_region
    go_wp2
    all_goals first
      | (go_roundw
         case rel => exact ⟨0 + 1, by omega, rfl, (by have h := Kd.R_drew (Kd.R_alloc HR.out (.cells #[.int .i64 0, .int .i64 ((p : Int) + a.size), .string ⟨S.toArray⟩, .string ⟨P.toArray⟩, .bool hh] 28)); rw [HRl.out] at h; exact h), below_drew1 (below_alloc (below_set (j := (X.length - 1) * 5 + 2) (v := .string ((tokS z).f2 ++ ⟨S.toArray⟩)) HB.out hgb) _)⟩
         case measure => simp [intOf]; omega)
end Go.Proofs.YtgdpojleejdfaaaDoor.Px
