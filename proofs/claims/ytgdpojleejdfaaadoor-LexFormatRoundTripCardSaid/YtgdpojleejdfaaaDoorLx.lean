/- Contract of lex.Lex. -/
import Derived.Test.YtgdpojleejdfaaaDoorDi
import Derived.Test.YtgdpojleejdfaaaDoorLc
import Derived.WalkMore
import Derived.Shelf.Abstract
namespace Go.Proofs.YtgdpojleejdfaaaDoor.Px
open Go.RowKit Go.Proofs.YtgdpojleejdfaaaDoorW.PrintWords Go.Proofs.YtgdpojleejdfaaaDoorW.PrintLast Go.Proofs.YtgdpojleejdfaaaDoorW.PrintMore
set_option linter.unusedVariables false
set_option linter.unusedSimpArgs false

theorem info28 : (Tryd.prog.info? 28).map (fun i => (i.zero, i.size, i.bytes)) = some (some (.agg #[(.int .i64 0), (.int .i64 0), (.string ⟨#[]⟩), (.string ⟨#[]⟩), (.bool false)]), 5, 56) := by kernel_rfl
def preL (l0 : List T5) : Except (Nat × Int) (List T5) → Except (Nat × Int) (List T5)
  | .ok l => .ok (l0 ++ l)
  | .error e => .error e
theorem cut_none {c : UInt8} {s : List UInt8} (h : noPair c s) : Lib.cut s [c, c] = (s, [], false) := by
  unfold Lib.cut; rw [idx_none h]; rfl
theorem cut_at {c : UInt8} {t r : List UInt8} (h : noPair c (t ++ [c])) : Lib.cut (t ++ c :: c :: r) [c, c] = (t, r, true) := by
  unfold Lib.cut
  rw [idx_at r h, if_pos (Int.natCast_nonneg _), Int.toNat_natCast, List.take_left]
  have : (t ++ c :: c :: r).drop (t.length + [c, c].length) = r := by rw [← List.drop_drop, List.drop_left]; rfl
  rw [this]
theorem ex3 {α β γ : Type} (x : α × β × γ) : ∃ a b c, x = (a, b, c) := ⟨x.1, x.2.1, x.2.2, rfl⟩
theorem cut_len {D sep t rs : List UInt8} {more : Bool} (h : Lib.cut D sep = (t, rs, more)) : t.length ≤ D.length := by
  unfold Lib.cut at h
  split at h
  · cases h; rw [List.length_take]; omega
  · cases h; exact Nat.le_refl _
theorem cut_len2 {D sep t rs : List UInt8} {more : Bool} (h : Lib.cut D sep = (t, rs, more)) : rs.length ≤ D.length := by
  unfold Lib.cut at h
  split at h
  · cases h; rw [List.length_drop]; omega
  · cases h; exact Nat.zero_le _
set_option maxRecDepth 100000 in
theorem isSpace_any (x : Nat) (w : World) : Calls Tryd.prog 40 #[.int .i32 x] w fun e w' => e = .returned (.bool (isSp x)) ∧ ∃ q, w' = w.drewN q := by
  go_enter Tryd.func40, Tryd.ntmps40
  go_wp2
  go_ret
  exact ⟨rfl, 0, rfl⟩
theorem space_pred (w : World) : PredAtRunes Tryd.prog 40 #[] isSp w := fun W x _ _ => isSpace_any x W
theorem enters40 : Enters Tryd.prog 40 := enters_of Tryd.func40 (by kernel_rfl) rfl
theorem words_small (s : ByteArray) : ∀ x ∈ Lib.goFieldsP isSp s, x.size ≤ s.size := by
  intro x hx
  unfold Lib.goFieldsP at hx
  obtain ⟨y, _, rfl⟩ := List.mem_map.1 hx
  rw [ByteArray.size_extract]; omega
theorem fieldsFunc_any (s : ByteArray) (w : World) (hs : s.size ≤ 65536) : Calls Tryd.prog 39 #[.string s, .func (.func 40) #[] #[]] w fun e w' => ∃ (ws : List ByteArray) (A : Option Addr), e = .returned (.slice A ws.length ws.length) ∧
    ws.map (·.data.toList) = fieldsG s.data.toList [] ∧ (∀ x ∈ ws, x.size ≤ 65536) ∧ Kd.C Kd.string w' A ws.length ws ∧ Below w.heap.size w w' := by
  refine (Tryd.strings_FieldsFunc_runes 40 #[] (fun args w => enters40 args w) isSp s w (by omega) (space_pred w)).mono ?_
  rintro e w' ⟨A, rfl, _, ho, hb⟩
  have hR : Kd.R Kd.string 9 w' w.heap.size (fun _ => True) (.slice (some ⟨A, 0, none⟩) (Lib.goFieldsP isSp s).length (Lib.goFieldsP isSp s).length) (Lib.goFieldsP isSp s) := Kd.R_of_own ho (fun _ _ => trivial)
  exact ⟨_, _, rfl, fields_is s, fun x hx => Nat.le_trans (words_small s x hx) hs, (Kd.R_reads' hR).2.2, hb⟩
theorem preL_nil (x : Except (Nat × Int) (List T5)) : preL [] x = x := by cases x <;> rfl
theorem preL_pre (a b : List T5) (x : Except (Nat × Int) (List T5)) : preL a (preL b x) = preL (a ++ b) x := by
  cases x with
  | error e => rfl
  | ok l => simp [preL]
def TokRow (w wr : World) (v : Value) (acc : List T5) : Prop := Kd.R k28 28 wr w.heap.size (fun _ => True) v (acc.map tokS) ∧ Below w.heap.size w wr
def LxR (s : ByteArray) (R : List S28 × Int × Int) (w : World) (v5 v6 : Value) (wr : World) : Prop :=
  ∃ (acc : List T5) (p : Nat), v6 = .int .i64 p ∧ p ≤ s.size ∧ acc.length ≤ p ∧ R = lexR s (preL acc (lexS p (s.data.toList.drop p))) ∧ TokRow w wr v5 acc
/-- Behind the text: the tokens and the place. -/
def LxT (acc : List T5) (p : Nat) (w : World) (v5 v6 : Value) (wr : World) : Prop := v6 = .int .i64 p ∧ TokRow w wr v5 acc

set_option maxHeartbeats 2000000 in
set_option maxRecDepth 100000 in
theorem lex_any (s : ByteArray) (w : World) (hG : Glob w) (hS : Shapes w) :
    Calls Tryd.prog 15 #[.string s] w fun e w' => ∃ v, e = .returned (.tuple #[v, .int .i64 (lexF s).2.1, .int .i64 (lexF s).2.2]) ∧ Kd.R k28 28 w' w.heap.size (fun _ => True) v (lexF s).1 ∧ Below w.heap.size w w' := by
  by_cases hs : (s.size : Int) > 65536
  · have hR : lexF s = ([], 0, 6) := if_pos hs
    rw [hR]
    go_enter Tryd.func15, Tryd.ntmps15
    go_wp2
    go_step3
    go_wp2
    (try rw [Exit.noGoto_ret])
    go_ret3
    exact ⟨_, rfl, Kd.R_nil _ _ _ _ _, Below.refl _ _⟩
  have hR : lexF s = lexR s (lexS 0 s.data.toList) := if_neg hs
  have hz : s.size ≤ 65536 := by omega
  generalize lexF s = R at *
  have H0 : LxR s R w (.slice none 0 0) (.int .i64 0) w := ⟨[], 0, rfl, Nat.zero_le _, Nat.zero_le _, by rw [preL_nil, List.drop_zero]; exact hR, Kd.R_nil _ _ _ _ _, Below.refl _ _⟩
  clear hR
  replace hG := Aside0.mk hG
  replace hS := Aside0.mk hS
  go_enter Tryd.func15, Tryd.ntmps15
  go_wp2
  go_step3
  go_wp2
  go_step3
  go_wp2
  go_loopw [5, 6] (fun v5 v6 wr => LxR s R w v5 v6 wr) (fun _ v6 _ => s.size + 1 - (intOf v6).toNat)
  case atStart => exact H0
  case round =>
    clear H0
    obtain ⟨acc, p, rfl, hp, hacc, hR, HT⟩ := hrel
    obtain ⟨HO, HB⟩ := HT
    replace HO := Aside0.mk HO
    replace HB := Aside0.mk HB
    obtain ⟨m, hm⟩ := (hG.out.below HB.out).mx
    obtain ⟨X, hX⟩ : ∃ X, s.extract p s.size = X := ⟨_, rfl⟩
    have hXd : X.data.toList = s.data.toList.drop p := by rw [← hX]; exact Lib.extract_to_end s p
    have hXz : X.size ≤ 65536 := by rw [← hX, ByteArray.size_extract]; omega
    have hc1 := Tryd.strings_Cut X ⟨#[123, 123]⟩ m wr (by omega) hm
    have hXl : X.size + p = s.size := by rw [← hX, ByteArray.size_extract]; omega
    rw [hXd] at hc1
    have hpi : (p : Int) ≤ (s.size : Int) := by omega
    have hX2 : s.extract (p : Int).toNat s.size = X := by rw [Int.toNat_natCast]; exact hX
    have hDl : (s.data.toList.drop p).length = s.size - p := by rw [List.length_drop, data_length]
    clear hm
    generalize hD : s.data.toList.drop p = D at *
    obtain ⟨t, rs, more, hcE⟩ := ex3 (Lib.cut D (⟨#[123, 123]⟩ : ByteArray).data.toList)
    rw [hcE] at hc1
    have htl : t.length ≤ D.length := cut_len hcE
    have hrl : rs.length ≤ D.length := cut_len2 hcE
    obtain ⟨T, hT⟩ : ∃ T : ByteArray, (⟨t.toArray⟩ : ByteArray) = T := ⟨_, rfl⟩
    have hTd : T.data.toList = t := by rw [← hT]
    have hTz : T.size = t.length := by rw [← hT]; exact List.size_toArray ..
    obtain ⟨RS, hRS⟩ : ∃ RS : ByteArray, (⟨rs.toArray⟩ : ByteArray) = RS := ⟨_, rfl⟩
    have hRd : RS.data.toList = rs := by rw [← hRS]
    have hRz : RS.size ≤ 65536 := by rw [← data_length, hRd]; omega
    rw [hT, hRS] at hc1
    replace hc1 := Aside0.mk hc1
    replace hcE := Aside0.mk hcE
    replace hD := Aside0.mk hD
    replace hT := Aside0.mk hT
    replace hTd := Aside0.mk hTd
    replace hRS := Aside0.mk hRS
    replace hRd := Aside0.mk hRd
    replace hXd := Aside0.mk hXd
    go_wp2_with fail
    refine hc1.out.mono ?_
    rintro e w1 ⟨rfl, nd, rfl⟩
    replace HO := Aside0.mk (Kd.R_drewN HO.out nd)
    replace HB := Aside0.mk (pw_below_drewN HB.out nd)
    generalize wr.drewN nd = w1 at *
    clear hc1 hX2 hXd hX
    go_upto_if 27 with fail
    go_cut [5, 6, 27] (fun v5 v6 _ wc => LxT (acc ++ txtT p t) (p + t.length) w v5 v6 wc)
    case first =>
      by_cases h0 : T.toList = []
      · have e1 : T.toList.isEmpty = true := by simp [h0]
        have ht0 : t = [] := by rw [← hTd.out, ← ByteArray.toList_eq]; exact h0
        simp only [e1, Bool.not_true]
        go_wp2
        go_meet
        case rel => exact ⟨by rw [ht0]; rfl, by rw [ht0]; simp only [txtT, if_true, List.append_nil]; exact HO.out, HB.out⟩
      · have e1 : T.toList.isEmpty = false := by simp [h0]
        have ht0 : ¬ t = [] := by rw [← hTd.out, ← ByteArray.toList_eq]; exact h0
        simp only [e1, Bool.not_false]
        go_wp2_with (at_builtin; go_loud (refine Kd.R_append k28 w.heap.size rfl _ _ 23 28 _ 56 rfl Tryd.underlying23 info28 rfl (by decide) (by decide) u5 (acc.map tokS) ⟨0, p, T, ⟨#[]⟩, false⟩ [.int .i64 0, .int .i64 p, .string T, .string ⟨#[]⟩, .bool false] (fun _ => True) (fun k => some k ≠ u5.ownBlock) rfl rfl (k28_mkM _ _ _ ⟨0, p, T, ⟨#[]⟩, false⟩) (fun k hk => ⟨trivial, hk⟩) (fun _ _ => trivial) HO.out HB.out HB.out.size (by rw [List.length_map]; omega) ?_); intro v1 w5 HO5 HB5 _ _; obtain ⟨A1, c1, rfl⟩ := Kd.R_slice HO5; replace HO5 := Aside0.mk HO5; replace HB5 := Aside0.mk HB5)
        go_meet
        case rel =>
          refine ⟨by simp, ?_, HB5.out⟩
          have h5 := HO5.out
          rw [List.length_append, List.length_singleton, List.length_map] at h5
          have e : (acc ++ txtT p t).map tokS = acc.map tokS ++ [⟨0, p, T, ⟨#[]⟩, false⟩] := by
            rw [List.map_append]; unfold txtT; rw [if_neg ht0, ← hT.out]; rfl
          rw [e]
          exact h5
    case rest =>
      clear HO HB
      obtain ⟨rfl, HO, HB⟩ := hcut
      replace HO := Aside0.mk HO
      replace HB := Aside0.mk HB
      have htx : (txtT p t).length ≤ t.length := by
        unfold txtT
        split
        · simp
        · rename_i h; have := List.length_pos_iff.2 h; simp only [List.length_cons, List.length_nil]; omega
      have hal : (acc ++ txtT p t).length ≤ p + t.length := by rw [List.length_append]; omega
      have hap := Aside0.mk (preL_pre acc (txtT p t))
      generalize ha1 : acc ++ txtT p t = acc1 at *
      replace ha1 := Aside0.mk ha1
      clear htx hacc
      cases way D with
      | text _ hn =>
        have hx := (cut_none hn).symm.trans hcE.out
        simp only [Prod.mk.injEq] at hx
        obtain ⟨rfl, rfl, rfl⟩ := hx
        have hE := Aside0.mk (show R = (acc1.map tokS, (s.size : Int), 0) by rw [hR, lexS_text hn, ← ha1.out]; rfl)
        go_wp2
        (try rw [Exit.noGoto_ret])
        go_ret3
        exact ⟨_, by rw [hE.out]; rfl, by rw [hE.out]; exact HO.out, HB.out⟩
      | open_ t' r hn hr =>
        have hx := (cut_at hn).symm.trans hcE.out
        simp only [Prod.mk.injEq] at hx
        obtain ⟨rfl, rfl, rfl⟩ := hx
        have hE := Aside0.mk (show R = ([], ((p + t'.length : Nat) : Int), 7) by rw [hR, lexS_open hn hr]; rfl)
        obtain ⟨m2, hm2⟩ := (hG.out.below HB.out).mx
        have hc2 := Tryd.strings_Cut RS ⟨#[125, 125]⟩ m2 wc (by omega) hm2
        have hq : Lib.cut r (⟨#[125, 125]⟩ : ByteArray).data.toList = (r, [], false) := cut_none hr
        rw [hRd.out, hq, hRS.out] at hc2
        replace hc2 := Aside0.mk hc2
        clear hq hm2
        go_wp2_with fail
        refine hc2.out.mono ?_
        rintro e w2 ⟨rfl, nd2, rfl⟩
        replace HB := Aside0.mk (pw_below_drewN HB.out nd2)
        go_wp2
        (try rw [Exit.noGoto_ret])
        go_ret3
        exact ⟨_, by rw [hE.out]; rfl, by rw [hE.out]; exact Kd.R_nil _ _ _ _ _, HB.out⟩
      | dir t' u r hn hu =>
        have hx := (cut_at (r := u ++ 125 :: 125 :: r) hn).symm.trans hcE.out
        simp only [Prod.mk.injEq] at hx
        obtain ⟨rfl, rfl, rfl⟩ := hx
        have hul : p + t'.length + u.length + 4 + r.length = s.size := by
          have := hDl
          simp only [List.length_append, List.length_cons] at this
          omega
        have hRd2 := lexS_dir (p := p) (r := r) hn hu
        obtain ⟨m2, hm2⟩ := (hG.out.below HB.out).mx
        have hc2 := Tryd.strings_Cut RS ⟨#[125, 125]⟩ m2 wc (by omega) hm2
        have hq : Lib.cut (u ++ 125 :: 125 :: r) (⟨#[125, 125]⟩ : ByteArray).data.toList = (u, r, true) := cut_at hu
        rw [hRd.out, hq] at hc2
        obtain ⟨U, hU⟩ : ∃ U : ByteArray, (⟨u.toArray⟩ : ByteArray) = U := ⟨_, rfl⟩
        have hUd : U.data.toList = u := by rw [← hU]
        have hUz : U.size = u.length := by rw [← hU]; exact List.size_toArray ..
        rw [hU] at hc2
        replace hc2 := Aside0.mk hc2
        clear hq hm2
        go_wp2_with fail
        refine hc2.out.mono ?_
        rintro e w2 ⟨rfl, nd2, rfl⟩
        replace HO := Aside0.mk (Kd.R_drewN HO.out nd2)
        replace HB := Aside0.mk (pw_below_drewN HB.out nd2)
        generalize wc.drewN nd2 = w2 at *
        clear hc2
        go_wp2_with fail
        refine (fieldsFunc_any U _ (by omega)).mono ?_
        rintro e w3 ⟨ws, A, rfl, hws, hwz, hC, hb⟩
        replace HO := Aside0.mk (Kd.R_below HO.out hb)
        replace HB := Aside0.mk (below_step HB.out hb)
        clear hb
        have hdi := directive_any ws A ws.length w3 (hG.out.below HB.out) (hS.out.below HB.out) hC (Nat.le_refl _) hwz
        rw [hws, hUd] at hdi
        rw [hRd2] at hR
        clear hRd2
        obtain ⟨d1, dk, ds, dp, dh, hd⟩ : ∃ d1 dk ds dp dh, dirF (fieldsG u []) = (d1, dk, ds, dp, dh) := ⟨_, _, _, _, _, rfl⟩
        rw [hd] at hdi hR
        replace hdi := Aside0.mk hdi
        clear hws hwz hC
        go_wp2_with fail
        refine hdi.out.mono ?_
        rintro e w4 ⟨rfl, hb⟩
        replace HO := Aside0.mk (Kd.R_below HO.out hb)
        replace HB := Aside0.mk (below_step HB.out hb)
        clear hb hdi
        unfold tokV
        dsimp only
        by_cases he : d1 = 0
        case neg =>
          have hE := Aside0.mk (show R = ([], ((p + t'.length : Nat) : Int), d1) by rw [hR, if_neg he]; rfl)
          have he' : (d1 != 0) = true := by rw [bne_iff_ne]; exact he
          clear hR
          go_wp2
          (try rw [Exit.noGoto_ret])
          go_ret3
          exact ⟨_, by rw [hE.out]; rfl, by rw [hE.out]; exact Kd.R_nil _ _ _ _ _, below_alloc HB.out _⟩
        subst he
        have hRR := Aside0.mk (show R = lexR s (preL (acc1 ++ [(p + t'.length, dk, ds, dp, dh)]) (lexS (p + t'.length + u.length + 4) (s.data.toList.drop (p + t'.length + u.length + 4)))) by
          have e1 : s.data.toList.drop (p + t'.length + u.length + 4) = r := by
            have e2 : (t' ++ 123 :: 123 :: (u ++ 125 :: 125 :: r)) = (t' ++ [123, 123] ++ u ++ [125, 125]) ++ r := by simp
            rw [show p + t'.length + u.length + 4 = p + (t' ++ [123, 123] ++ u ++ [125, 125]).length by simp; omega, ← List.drop_drop, hD.out, e2, List.drop_left]
          rw [hR, e1, if_pos rfl, ← ha1.out]
          cases lexS (p + t'.length + u.length + 4) r with
          | error e => rfl
          | ok l => simp [preL])
        clear hR
        go_upto_region 17 with fail
        go_wp2_with (at_builtin; refine Kd.R_append k28 w.heap.size rfl _ _ 23 28 _ 56 rfl Tryd.underlying23 info28 rfl (by decide) (by decide) u5 (acc1.map tokS) ⟨dk, (p : Int) + t'.length, ⟨ds.toArray⟩, ⟨dp.toArray⟩, dh⟩ [.int .i64 dk, .int .i64 ((p : Int) + t'.length), .string ⟨ds.toArray⟩, .string ⟨dp.toArray⟩, .bool dh] (fun _ => True) (fun k => some k ≠ u5.ownBlock) rfl (by rw [World.size_alloc]; rfl) (k28_mkM _ _ _ ⟨dk, (p : Int) + t'.length, ⟨ds.toArray⟩, ⟨dp.toArray⟩, dh⟩) (fun k hk => ⟨trivial, hk⟩) (fun _ _ => trivial) (Kd.R_alloc HO.out _) (below_alloc HB.out _) (Nat.le_trans HB.out.size (by simp)) (by rw [List.length_map]; omega) ?_; intro v1 w5 HO5 HB5 _ _; obtain ⟨A1, c1, rfl⟩ := Kd.R_slice HO5; replace HO5 := Aside0.mk HO5; replace HB5 := Aside0.mk HB5)
        go_roundw
        case rel =>
          refine ⟨acc1 ++ [(p + t'.length, dk, ds, dp, dh)], p + t'.length + u.length + 4, ?_, by omega, by rw [List.length_append, List.length_singleton]; omega, hRR.out, ?_, HB5.out⟩
          · simp [hUz]; omega
          · have h5 := HO5.out
            rw [List.length_append, List.length_singleton, List.length_map] at h5
            have e : (acc1 ++ [(p + t'.length, dk, ds, dp, dh)]).map tokS = acc1.map tokS ++ [⟨dk, (p : Int) + t'.length, ⟨ds.toArray⟩, ⟨dp.toArray⟩, dh⟩] := by
              rw [List.map_append]; simp [tokS]
            rw [e]
            exact h5
        case measure => simp [intOf, hUz]; omega
end Go.Proofs.YtgdpojleejdfaaaDoor.Px
