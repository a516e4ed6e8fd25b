import Derived.Test.YtkpnfejfbmandaaDoorCIM19
import Derived.Maps.OwnSet
import Derived.Maps.OwnOps
import Derived.Defers
import Derived.StillTailTactics
/- compile: a node of kind 4 (a call is noted). -/
namespace Go.Proofs.YtkpnfejfbmandaaDoor.Px
open Go.RowKit Go.Proofs.YtkpnfejfbmandaaDoorW.PrintWords Go.Proofs.YtkpnfejfbmandaaDoorW.PrintLast Go.Proofs.YtkpnfejfbmandaaDoorW.PrintMore
open Go.Maps Go.ChangeMaps Go.MapKept
set_option linter.unusedVariables false
set_option linter.unusedSimpArgs false
theorem KOut.mapped {w0 w : World} {g b1 b2 : Nat} {v0 v : Value} {code A c left W W3} {l : List (Int × ByteArray)} (h : KOut w0 w g b1 b2 (some b2) v0 v code A c left W) (hM : MpC W b2 l) (hb2 : w0.heap.size ≤ b2) (hg : W.grownBy W3 (some b2)) : KOut w0 w g b1 b2 (some b2) v0 v code A c left W3 := by
  have hne := hM.ne_g h.st
  obtain ⟨es, clock, hm⟩ := hM.at_
  refine ⟨⟨blk_grown h.st.blk hg (fun e => hne (by simpa using e.symm)), ?_, h.st.lf, h.st.le, h.st.bel.grown hg h.st.bel.size (fun k hk => by cases hk; exact hb2), h.st.ge⟩, h.keep.trans (⟨hg.size, fun i hi _ hb _ => hg.block i hi hb⟩ : Kp3 W W3 g (some b2) none) (.inr (.inl rfl)), h.row⟩
  refine Kd.R_mono (Kd.R_step (Kd.R_bound h.st.own) (fun k ho _ => hg.block k ho.2.2.1 ?_)) (fun k hk => hk.1)
  intro e
  obtain rfl : k = b2 := by simpa using e
  obtain ⟨q, _, cells, hc⟩ := ho.2.2.2
  rw [hm] at hc
  cases hc
theorem mpD_snoc (l : List (Int × ByteArray)) (p : Int × ByteArray) : mpD (l ++ [p]) = (mpD l).put (.int .i64 p.1) (.lit (.string p.2.data.toList)) := by unfold mpD; rw [List.foldl_append]; rfl
set_option maxHeartbeats 1000000 in
set_option maxRecDepth 100000 in
theorem gNode.call (x : S78) (hk : x.f0 = 4) : gNode.Con x := by
  intro w0 g b1 b2 v st A A6 A7 c c6 c7 w hS hM hb2 hC6 hc6 hC7 hc7 hsm he hlc hlen
  rw [gN_at, if_neg (by rw [hk]; decide), if_neg (by rw [hk]; decide), if_neg (by rw [hk]; decide), if_neg (by rw [hk]; decide), if_pos hk]
  rw [hk]
  have hz0 : x.f2.size ≤ 65536 := by cases x; simp only [smN] at hsm; exact hsm.1
  have hcl : st.code.length ≤ 1000000 := by omega
  have hlc2 : st.calls.length ≤ 1000000 := by omega
  have hkey := Aside0.mk (keyOf_int_mk (P := Tryd.prog) (k := 3) (q := .i64) Tryd.underlying3 (a := (st.code.length : Int)) (by have h1 : IntKind.i64.min = -9223372036854775808 := (by decide); have h2 : IntKind.i64.max = 9223372036854775807 := (by decide); simp [Lit.wf, h1, h2]; omega))
  obtain ⟨W1, e1⟩ : ∃ W1, W1 = w.alloc (.cells #[.int .i64 x.f0, .int .i64 x.f1, .string x.f2, .string x.f3, .bool x.f4, .bool x.f5, .slice A6 x.f6.length c6, .slice A7 x.f7.length c7] 78) := ⟨_, rfl⟩
  have hSW : KIn w0 g b1 b2 v st.code A c st.left W1 := by rw [e1]; exact hS.alloc _
  have hOW := Aside0.mk (show KOut w0 w g b1 b2 (some b2) v v st.code A c st.left W1 from by rw [e1]; exact hS.out.alloc _)
  have hMW := Aside0.mk (show MpC W1 b2 st.calls from by rw [e1]; exact hM.alloc _)
  have hbx := Aside0.mk (show W1.heap[w.heap.size]? = some (.cells #[.int .i64 x.f0, .int .i64 x.f1, .string x.f2, .string x.f3, .bool x.f4, .bool x.f5, .slice A6 x.f6.length c6, .slice A7 x.f7.length c7] 78 (0, 0)) from by rw [e1]; exact blk_new _ _)
  have c3 : W1.cell? ⟨g, 3, none⟩ = some (.map (some b2)) := blk_cell hSW.blk 3
  have n2 : W1.cell? ⟨w.heap.size, 2, none⟩ = some (.string x.f2) := blk_cell hbx.out 2
  have n3 : W1.cell? ⟨w.heap.size, 3, none⟩ = some (.string x.f3) := blk_cell hbx.out 3
  have n4 : W1.cell? ⟨w.heap.size, 4, none⟩ = some (.bool x.f4) := blk_cell hbx.out 4
  have hem := Aside0.mk (emit_any ⟨6, ⟨#[]⟩, x.f3, x.f4, 0, 0⟩ W1.drew hSW.drew hcl)
  replace hSW := Aside0.mk hSW
  rw [hk] at e1
  clear hS hM hC6 hC7 hsm
  go_enter Tryd.func80, Tryd.ntmps80
  go_upto_region 15 with fail
  rw [← e1]
  clear e1
  go_region_held3 (fun w' => w'.cell? ⟨g, 3, none⟩ = some (.map (some b2)) ∧ w'.cell? ⟨w.heap.size, 2, none⟩ = some (.string x.f2) ∧ w'.cell? ⟨w.heap.size, 3, none⟩ = some (.string x.f3) ∧ w'.cell? ⟨w.heap.size, 4, none⟩ = some (.bool x.f4)) (first | exact ⟨c3, n2, n3, n4⟩ | exact ⟨blk_cell hgb 3, blk_cell hbb 2, blk_cell hbb 3, blk_cell hbb 4⟩ | go_keep) (first | (go_at_call 59; refine hem.out.mono ?_; rintro ee w2 ⟨rfl, v2, h2⟩; have hMk := hMW.out.drew.kept hSW.out.drew h2; have hb2' := KOut.boxed hSW.out.drew h2 (show W1.drew.heap[w.heap.size]? = _ from hbx.out) (by decide) (by decide); replace h2 := hOW.out.drew.call (h2.more (some b2)); clear c3 n2 n3 n4; have c3 : w2.cell? ⟨g, 3, none⟩ = some (.map (some b2)) := blk_cell h2.st.blk 3; have n2 : w2.cell? ⟨w.heap.size, 2, none⟩ = some (.string x.f2) := blk_cell hb2' 2; have n3 : w2.cell? ⟨w.heap.size, 3, none⟩ = some (.string x.f3) := blk_cell hb2' 3; have n4 : w2.cell? ⟨w.heap.size, 4, none⟩ = some (.bool x.f4) := blk_cell hb2' 4; obtain ⟨w3, hrun, hO2, hg2⟩ := World.ownsMap.update hMk law3 Tryd.underlying120 (by unfold maxLen; omega) hkey.out (plainElem_string Tryd.underlying9 (show x.f2.size ≤ maxLen by unfold maxLen; omega)); have hgb := blk_grown h2.st.blk hg2 (fun e => hMk.ne_g h2.st (by simpa using e.symm)); have hbb := blk_grown hb2' hg2 (fun e => by obtain ⟨_, _, hq⟩ := hMk.at_; have e2 : w.heap.size = b2 := (by simpa using e); rw [e2, hq] at hb2'; cases hb2'); have hM3 := Aside0.mk hO2; replace h2 := Aside0.mk (h2.mapped hMk hb2 hg2); clear hb2' hg2 hO2 hMk))
  all_goals go_wp2
  all_goals exact Go.Great.bodyPost_end0 rfl rfl ⟨rfl, _, _, _, h2.out, by show World.ownsMap _ _ _ _ _ _ _; rw [List.length_append, mpD_snoc]; exact hM3.out⟩
end Go.Proofs.YtkpnfejfbmandaaDoor.Px
namespace Go.Proofs.YtkpnfejfbmandaaDoor.Px
open Go.RowKit Go.Proofs.YtkpnfejfbmandaaDoorW.PrintWords Go.Proofs.YtkpnfejfbmandaaDoorW.PrintLast Go.Proofs.YtkpnfejfbmandaaDoorW.PrintMore
open Go.Maps Go.ChangeMaps Go.MapKept
set_option linter.unusedVariables false
set_option linter.unusedSimpArgs false
set_option maxHeartbeats 1000000 in
set_option maxRecDepth 100000 in
theorem gNode.range (x : S78) (hk : x.f0 = 3) (h6 : gList.Con x.f6) : gNode.Con x := by
  intro w0 g b1 b2 v st A A6 A7 c c6 c7 w hS hM hb2 hC6 hc6 hC7 hc7 hsm he hlc hlen
  rw [gN_at, if_neg (by rw [hk]; decide), if_neg (by rw [hk]; decide), if_neg (by rw [hk]; decide), if_pos hk]
  rw [hk]
  have hs6 : smL x.f6 := by cases x; simp only [smN] at hsm; exact hsm.2.1
  have he6 : eL x.f6 ≤ st.left.length := by
    have : eN x = eL x.f6 := by cases x; simp only at hk; simp [eN, hk]
    omega
  rw [nN_eq] at hlc hlen
  have hcl : st.code.length ≤ 1000000 := by omega
  have hgl := gL_len x.f6 (st.emit ⟨4, e0, x.f3, false, 0, 0⟩)
  rw [show (st.emit ⟨4, e0, x.f3, false, 0, 0⟩).code.length = st.code.length + 1 from by simp [KS.emit]] at hgl
  have hwr : IntKind.i64.wrap ((st.code.length : Int) + 1) = (st.code.length : Int) + 1 := by rw [IntKind.wrap_i64]; omega
  obtain ⟨W1, e1⟩ : ∃ W1, W1 = w.alloc (.cells #[.int .i64 x.f0, .int .i64 x.f1, .string x.f2, .string x.f3, .bool x.f4, .bool x.f5, .slice A6 x.f6.length c6, .slice A7 x.f7.length c7] 78) := ⟨_, rfl⟩
  have hSW : KIn w0 g b1 b2 v st.code A c st.left W1 := by rw [e1]; exact hS.alloc _
  have hOW := Aside0.mk (show KOut w0 w g b1 b2 (some b2) v v st.code A c st.left W1 from by rw [e1]; exact hS.out.alloc _)
  have hMW := Aside0.mk (show MpC W1 b2 st.calls from by rw [e1]; exact hM.alloc _)
  have hbx := Aside0.mk (show W1.heap[w.heap.size]? = some (.cells #[.int .i64 x.f0, .int .i64 x.f1, .string x.f2, .string x.f3, .bool x.f4, .bool x.f5, .slice A6 x.f6.length c6, .slice A7 x.f7.length c7] 78 (0, 0)) from by rw [e1]; exact blk_new _ _)
  have n3 : W1.cell? ⟨w.heap.size, 3, none⟩ = some (.string x.f3) := blk_cell hbx.out 3
  have hem := Aside0.mk (emit_any ⟨4, ⟨#[]⟩, x.f3, false, 0, 0⟩ W1 hSW hcl)
  have hli := Aside0.mk (fun v2 W (h : KIn w0 g b1 b2 v2 (st.emit ⟨4, e0, x.f3, false, 0, 0⟩).code A c (st.emit ⟨4, e0, x.f3, false, 0, 0⟩).left W) (hm : MpC W b2 (st.emit ⟨4, e0, x.f3, false, 0, 0⟩).calls) => h6 w0 g b1 b2 v2 (st.emit ⟨4, e0, x.f3, false, 0, 0⟩) A A6 c c6 W h hm hb2 hC6 hc6 hs6 he6 (by show st.calls.length + _ ≤ _; omega) (by simp only [KS.emit, List.length_append, List.length_singleton]; omega))
  replace hSW := Aside0.mk hSW
  rw [hk] at e1
  clear hS hM hC6 hC7 hsm h6
  go_enter Tryd.func80, Tryd.ntmps80
  go_upto_region 10 with fail
  rw [← e1]
  clear e1
  go_wp2_with (first | (go_at_call 59; refine hem.out.mono ?_; rintro ee w2 ⟨rfl, v2, h2⟩; have hMk := Aside0.mk (hMW.out.kept hSW.out h2); have hb2' := KOut.boxed hSW.out h2 hbx.out (by decide) (by decide); replace h2 := Aside0.mk (hOW.out.call (h2.more (some b2))); clear n3 hem; have n6 : w2.cell? ⟨w.heap.size, 6, none⟩ = some (.slice A6 x.f6.length c6) := blk_cell hb2' 6; clear hb2') | (go_at_call 58; refine (hli.out _ _ h2.out.st hMk.out).mono ?_; rintro ee w3 ⟨rfl, v3, A3, c3, h3, hM3⟩; replace h3 := Aside0.mk (h2.out.call h3); replace hM3 := Aside0.mk hM3; clear n6 hli) | (go_at_call 59; refine (emit_any ⟨5, ⟨#[]⟩, ⟨#[]⟩, false, 0, (st.code.length : Int) + 1⟩ _ h3.out.st (by omega)).mono ?_; rintro ee w4 ⟨rfl, v4, h4⟩; have hM4 := Aside0.mk (hM3.out.kept h3.out.st h4); replace h4 := Aside0.mk (h3.out.call (h4.more (some b2))); clear h3 hM3) | (go_at_call 93; refine (land_any st.code.length (by rw [List.length_append, List.length_singleton]; omega) _ h4.out.st).mono ?_; rintro ee w5 ⟨rfl, h5⟩; have hM5 := Aside0.mk (hM4.out.kept h4.out.st h5); replace h5 := Aside0.mk (h4.out.call (h5.more (some b2))); clear h4 hM4))
  all_goals exact Go.Great.bodyPost_end0 rfl rfl ⟨rfl, _, _, _, h5.out, hM5.out⟩
end Go.Proofs.YtkpnfejfbmandaaDoor.Px
namespace Go.Proofs.YtkpnfejfbmandaaDoor.Px
open Go.RowKit Go.Proofs.YtkpnfejfbmandaaDoorW.PrintWords Go.Proofs.YtkpnfejfbmandaaDoorW.PrintLast Go.Proofs.YtkpnfejfbmandaaDoorW.PrintMore
open Go.Maps Go.ChangeMaps Go.MapKept
set_option linter.unusedVariables false
set_option linter.unusedSimpArgs false
structure GLoop (w0 w : World) (g b1 b2 : Nat) (v : Value) (l : List S78) (R : KS) (i : Nat) (wr : World) (v' : Value) (A' : Option Addr) (c' : Nat) (st : KS) : Prop where
  eq : gL (l.drop i) st = R
  sm : smL (l.drop i)
  el : eL (l.drop i) ≤ st.left.length
  lc : st.calls.length + nL (l.drop i) ≤ 1000000
  len : st.code.length + 2 * nL (l.drop i) ≤ 1000000
  a : KOut w0 w g b1 b2 (some b2) v v' st.code A' c' st.left wr
  m : MpC wr b2 st.calls
mutual
theorem gL_calls_len : ∀ (l : List S78) (st : KS), (gL l st).calls.length ≤ st.calls.length + nL l
  | [], st => by simp [gL, nL]
  | x :: xs, st => by
    have h1 := gN_calls_len x st
    have h2 := gL_calls_len xs (gN x st)
    rw [gL, nL_cons]; omega
theorem gN_calls_len : ∀ (x : S78) (st : KS), (gN x st).calls.length ≤ st.calls.length + nN x
  | ⟨k, at_, S, nm, f4, f5, b, l⟩, st => by
    rw [gN, nN_eq]
    by_cases h0 : k = 0
    · simp [h0, KS.emit]
    by_cases h1 : k = 1
    · simp [h1]
    by_cases h2 : k = 2
    · have hb := gL_calls_len b (st.emit ⟨2, e0, nm, false, 0, 0⟩)
      cases f5
      · simp only [h2, KS.emit, KS.land, if_true, if_false, Bool.false_eq_true, show ((2 : Int) = 0) = False by decide, show ((2 : Int) = 1) = False by decide] at hb ⊢; omega
      · have hl := gL_calls_len l (((gL b (st.emit ⟨2, e0, nm, false, 0, 0⟩)).emit ⟨3, e0, e0, false, 0, 0⟩).land st.code.length)
        simp only [h2, KS.emit, KS.land, if_true, if_false, show ((2 : Int) = 0) = False by decide, show ((2 : Int) = 1) = False by decide] at hb hl ⊢; omega
    by_cases h3 : k = 3
    · have hb := gL_calls_len b (st.emit ⟨4, e0, nm, false, 0, 0⟩)
      simp only [h3, KS.emit, KS.land, if_true, if_false, show ((3 : Int) = 0) = False by decide, show ((3 : Int) = 1) = False by decide, show ((3 : Int) = 2) = False by decide] at hb ⊢; omega
    by_cases h4 : k = 4
    · simp [h4]; omega
    by_cases h5 : k = 5
    · simp [h5, KS.emit]
    simp [h0, h1, h2, h3, h4, h5]
end
set_option maxHeartbeats 1000000 in
set_option maxRecDepth 100000 in
theorem gList.step (l : List S78) (ih : ∀ x ∈ l, gNode.Con x) : gList.Con l := by
  intro w0 g b1 b2 v st A B c cb w hS hM hb2 hC hc hsm he hlc hlen
  have H0 : GLoop w0 w g b1 b2 v l (gL l st) 0 w v A c st := ⟨rfl, hsm, he, hlc, hlen, hS.out, hM⟩
  generalize gL l st = R at *
  replace ih := Aside0.mk ih
  replace hC := Aside0.mk hC
  replace H0 := Aside0.mk H0
  have hlt : l.length ≤ 1000000 := by have := nL_len l; omega
  clear hS hM hsm he hlc hlen
  go_enter Tryd.func58, Tryd.ntmps58
  go_wp2
  go_loopg [8] l.length (fun kq v8 wr => ∃ (i : Nat) (v' : Value) (A' : Option Addr) (c' : Nat) (st1 : KS), kq + i = l.length ∧ v8 = .int .i64 i ∧ GLoop w0 w g b1 b2 v l R i wr v' A' c' st1)
  case atStart => exact ⟨0, v, A, c, st, rfl, rfl, H0.out⟩
  case round =>
    clear H0
    obtain ⟨i, v1, A1, c1, tx, hki, rfl, HR⟩ := hrel
    have hgr := blk_lt HR.a.st.blk
    replace HR := Aside0.mk HR
    by_cases hlt2 : i < l.length
    · have hl : decide ((i : Int) < (l.length : Int)) = true := decide_eq_true (by omega)
      have hd : l.drop i = l[i] :: l.drop (i + 1) := List.drop_eq_getElem_cons hlt2
      obtain ⟨ad, A6, c6, A7, c7, hA, x0, x1, x2, x3, x4, x5, x6, x7, l6, g6, l7, g7⟩ := at_T78 hC.out (i : Int) (by omega) (by omega)
      have hrd : rd_T78 l (i : Int) = l[i] := by unfold rd_T78; simp [List.getD, hlt2]
      simp only [Int.toNat_natCast] at x0 x1 x2 x3 x4 x5 x6 x7
      rw [hrd] at x0 x1 x2 x3 x4 x5 x6 x7 l6 g6 l7 g7
      have hin := List.getElem_mem hlt2
      generalize l[i] = x at *
      subst hA
      have up : ∀ {a : Addr} {u : Value}, w0.cell? a = some u → wr.cell? a = some u := fun h => (HR.out.a.st.bel.cell (World.block_lt_of_cell? _ _ h)).trans h
      have hab := World.block_lt_of_cell? _ _ (up x0)
      replace x0 := up x0
      replace x1 := up x1
      replace x2 := up x2
      replace x3 := up x3
      replace x4 := up x4
      replace x5 := up x5
      replace x6 := up x6
      replace x7 := up x7
      replace g6 := Aside0.mk g6
      replace g7 := Aside0.mk g7
      clear up hrd
      have HE := HR.out.eq
      have HS := HR.out.sm
      have HL := HR.out.len
      have HC := HR.out.lc
      have HEl := HR.out.el
      rw [hd] at HE HS HL HC HEl
      rw [gL] at HE
      rw [nL_cons] at HL HC
      rw [eL] at HEl
      have hlx := gN_len x tx
      have hly := gN_calls_len x tx
      have hlz : (gN x tx).left.length = tx.left.length - eN x := by rw [gN_left, List.length_drop]
      replace HE := Aside0.mk HE
      replace HS := Aside0.mk HS
      have hcall := Aside0.mk (fun W hk hm => ih.out x hin w0 g b1 b2 v1 tx A1 A6 A7 c1 c6 c7 W hk hm hb2 g6.out l6 g7.out l7 HS.out.1 (by omega) (by omega) (by omega))
      generalize gN x tx = Y at *
      clear ih hC g6 g7 hd
      go_wp2_with (go_at_call 80; refine (hcall.out _ (HR.out.a.st.alloc _) (HR.out.m.alloc _)).mono ?_; rintro e w3 ⟨rfl, v2, A2, c2, h3, hM3⟩; replace h3 := Aside0.mk ((HR.out.a.alloc _).call h3); replace hM3 := Aside0.mk hM3; clear hcall)
      go_roundg (gk - 1)
      case measure => omega
      case rel =>
        exact ⟨i + 1, v2, A2, c2, Y, by omega, by simp, ⟨HE.out, HS.out.2, by omega, by omega, by omega, h3.out, hM3.out⟩⟩
    · have hl : decide ((i : Int) < (l.length : Int)) = false := decide_eq_false (by omega)
      have HE := HR.out.eq
      rw [List.drop_eq_nil_of_le (by omega), gL] at HE
      subst HE
      clear ih hC
      go_wp2
      exact Go.Great.bodyPost_end0 rfl rfl ⟨rfl, _, _, _, HR.out.a, HR.out.m⟩
end Go.Proofs.YtkpnfejfbmandaaDoor.Px
namespace Go.Proofs.YtkpnfejfbmandaaDoor.Px
open Go.RowKit Go.Proofs.YtkpnfejfbmandaaDoorW.PrintWords Go.Proofs.YtkpnfejfbmandaaDoorW.PrintLast Go.Proofs.YtkpnfejfbmandaaDoorW.PrintMore
open Go.Maps Go.ChangeMaps Go.MapKept
set_option linter.unusedVariables false
set_option linter.unusedSimpArgs false
abbrev gBranch.Con (x : S78) : Prop := ∀ (w0 : World) (g b1 b2 : Nat) (v : Value) (st : KS) (A A6 A7 : Option Addr) (c c6 c7 : Nat) (w : World), KIn w0 g b1 b2 v st.code A c st.left w → MpC w b2 st.calls → w0.heap.size ≤ b2 → Kd.C k78 w0 A6 x.f6.length x.f6 → x.f6.length ≤ c6 → Kd.C k78 w0 A7 x.f7.length x.f7 → x.f7.length ≤ c7 → smN x → eN x ≤ st.left.length → st.calls.length + nN x ≤ 1000000 → st.code.length + 2 * nN x ≤ 1000000 →
  Calls Tryd.prog 92 #[.pointer (some ⟨g, 0, none⟩), .agg #[.int .i64 x.f0, .int .i64 x.f1, .string x.f2, .string x.f3, .bool x.f4, .bool x.f5, .slice A6 x.f6.length c6, .slice A7 x.f7.length c7]] w fun e w' =>
    e = .returned (.tuple #[]) ∧ ∃ v' A' c', KOut w0 w g b1 b2 (some b2) v v' (gN x st).code A' c' (gN x st).left w' ∧ MpC w' b2 (gN x st).calls
set_option maxHeartbeats 1000000 in
set_option maxRecDepth 100000 in
theorem gNode.ifs (x : S78) (hk : x.f0 = 2) (hB : gBranch.Con x) : gNode.Con x := by
  intro w0 g b1 b2 v st A A6 A7 c c6 c7 w hS hM hb2 hC6 hc6 hC7 hc7 hsm he hlc hlen
  have hc := Aside0.mk (fun o => hB w0 g b1 b2 v st A A6 A7 c c6 c7 (w.alloc o) (hS.alloc o) (hM.alloc o) hb2 hC6 hc6 hC7 hc7 hsm he hlc hlen)
  have hS1 := Aside0.mk (fun o => (hS.out (mb := some b2)).alloc o)
  obtain ⟨R, hR⟩ : ∃ R, R = gN x st := ⟨_, rfl⟩
  rw [← hR] at hc ⊢
  rw [hk] at hc ⊢
  clear hS hM hC6 hC7 hsm hR hB
  go_enter Tryd.func80, Tryd.ntmps80
  go_wp2_with (go_at_call 92; refine (hc.out _).mono ?_; rintro e w2 ⟨rfl, v2, A2, c2, h2, hM2⟩; replace h2 := Aside0.mk ((hS1.out _).call h2); replace hM2 := Aside0.mk hM2)
  all_goals exact Go.Great.bodyPost_end0 rfl rfl ⟨rfl, _, _, _, h2.out, hM2.out⟩
theorem gNode.any (x : S78) (h6 : gList.Con x.f6) (hB : x.f0 = 2 → gBranch.Con x) : gNode.Con x := by
  by_cases k0 : x.f0 = 0
  · exact gNode.text x k0
  by_cases k1 : x.f0 = 1
  · exact gNode.print x k1
  by_cases k2 : x.f0 = 2
  · exact gNode.ifs x k2 (hB k2)
  by_cases k3 : x.f0 = 3
  · exact gNode.range x k3 h6
  by_cases k4 : x.f0 = 4
  · exact gNode.call x k4
  by_cases k5 : x.f0 = 5
  · exact gNode.five x k5
  exact gNode.other x ⟨k0, k1, k2, k3, k4, k5⟩
end Go.Proofs.YtkpnfejfbmandaaDoor.Px
namespace Go.Proofs.YtkpnfejfbmandaaDoor.Px
open Go.RowKit Go.Proofs.YtkpnfejfbmandaaDoorW.PrintWords Go.Proofs.YtkpnfejfbmandaaDoorW.PrintLast Go.Proofs.YtkpnfejfbmandaaDoorW.PrintMore
open Go.Maps Go.ChangeMaps Go.MapKept
set_option linter.unusedVariables false
set_option linter.unusedSimpArgs false
theorem KOut.boxed2 {w0 w : World} {g b1 b2 : Nat} {v v2 : Value} {code A c left code2 A2 c2 left2 W} {l : List (Int × ByteArray)} {cs : Array Value} {t k : Nat} (h : KIn w0 g b1 b2 v code A c left w) (hM : MpC w b2 l) (hO : KOut w0 w g b1 b2 (some b2) v v2 code2 A2 c2 left2 W) (hb : w.heap[k]? = some (.cells cs t (0, 0))) (ht : t ≠ 122) (ht2 : t ≠ 40) : W.heap[k]? = some (.cells cs t (0, 0)) := by
  refine (hO.keep.2 k (blk_lt hb) ?_ ?_ ?_).trans hb
  · rintro rfl
    rw [h.blk] at hb
    cases hb
    exact ht rfl
  · intro e
    obtain rfl : k = b2 := by simpa using e
    obtain ⟨es, clock, hm⟩ := hM.at_
    rw [hm] at hb
    cases hb
  · intro e
    obtain ⟨_, inner, ho, _⟩ := h.own
    rcases ho.2 with ⟨rfl, _⟩ | ⟨g', cap, cur, rfl, _, hh, _⟩
    · cases e
    · obtain rfl : k = g' := by simpa [Value.ownBlock] using e
      rw [hh] at hb
      cases hb
      exact ht2 rfl
set_option maxHeartbeats 1000000 in
set_option maxRecDepth 100000 in
theorem gBranch.one (x : S78) (hk : x.f0 = 2) (h5 : x.f5 = false) (h6 : gList.Con x.f6) : gBranch.Con x := by
  intro w0 g b1 b2 v st A A6 A7 c c6 c7 w hS hM hb2 hC6 hc6 hC7 hc7 hsm he hlc hlen
  rw [gN_at, if_neg (by rw [hk]; decide), if_neg (by rw [hk]; decide), if_pos hk, h5, if_neg (by decide)]
  rw [hk]
  have hs6 : smL x.f6 := by cases x; simp only [smN] at hsm; exact hsm.2.1
  have he6 : eL x.f6 ≤ st.left.length := by
    have : eN x = eL x.f6 := by cases x; simp only at hk h5; simp [eN, hk, h5]
    omega
  rw [nN_eq] at hlc hlen
  have hcl : st.code.length ≤ 1000000 := by omega
  have hgl := gL_len x.f6 (st.emit ⟨2, e0, x.f3, false, 0, 0⟩)
  rw [show (st.emit ⟨2, e0, x.f3, false, 0, 0⟩).code.length = st.code.length + 1 from by simp [KS.emit]] at hgl
  obtain ⟨W1, e1⟩ : ∃ W1, W1 = w.alloc (.cells #[.int .i64 x.f0, .int .i64 x.f1, .string x.f2, .string x.f3, .bool x.f4, .bool false, .slice A6 x.f6.length c6, .slice A7 x.f7.length c7] 78) := ⟨_, rfl⟩
  have hSW : KIn w0 g b1 b2 v st.code A c st.left W1 := by rw [e1]; exact hS.alloc _
  have hOW := Aside0.mk (show KOut w0 w g b1 b2 (some b2) v v st.code A c st.left W1 from by rw [e1]; exact hS.out.alloc _)
  have hMW := Aside0.mk (show MpC W1 b2 st.calls from by rw [e1]; exact hM.alloc _)
  have hbx := Aside0.mk (show W1.heap[w.heap.size]? = some (.cells #[.int .i64 x.f0, .int .i64 x.f1, .string x.f2, .string x.f3, .bool x.f4, .bool false, .slice A6 x.f6.length c6, .slice A7 x.f7.length c7] 78 (0, 0)) from by rw [e1]; exact blk_new _ _)
  have n3 : W1.cell? ⟨w.heap.size, 3, none⟩ = some (.string x.f3) := blk_cell hbx.out 3
  have hem := Aside0.mk (emit_any ⟨2, ⟨#[]⟩, x.f3, false, 0, 0⟩ W1 hSW hcl)
  have hli := Aside0.mk (fun v2 W (h : KIn w0 g b1 b2 v2 (st.emit ⟨2, e0, x.f3, false, 0, 0⟩).code A c (st.emit ⟨2, e0, x.f3, false, 0, 0⟩).left W) (hm : MpC W b2 (st.emit ⟨2, e0, x.f3, false, 0, 0⟩).calls) => h6 w0 g b1 b2 v2 (st.emit ⟨2, e0, x.f3, false, 0, 0⟩) A A6 c c6 W h hm hb2 hC6 hc6 hs6 he6 (by show st.calls.length + _ ≤ _; omega) (by simp only [KS.emit, List.length_append, List.length_singleton]; omega))
  replace hSW := Aside0.mk hSW
  rw [hk] at e1
  clear hS hM hC6 hC7 hsm h6
  go_enter_defers Tryd.func92, Tryd.ntmps92
  go_upto_region 1 with fail
  rw [← e1]
  clear e1
  go_wp2_with (first | (go_at_call 59; refine hem.out.mono ?_; rintro ee w2 ⟨rfl, v2, h2⟩; have hMk := Aside0.mk (hMW.out.kept hSW.out h2); have hb2' := Aside0.mk (KOut.boxed hSW.out h2 hbx.out (by decide) (by decide)); replace h2 := Aside0.mk (hOW.out.call (h2.more (some b2))); clear n3 hem; have n6 : w2.cell? ⟨w.heap.size, 6, none⟩ = some (.slice A6 x.f6.length c6) := blk_cell hb2'.out 6) | (go_at_call 58; refine (hli.out _ _ h2.out.st hMk.out).mono ?_; rintro ee w3 ⟨rfl, v3, A3, c3, h3, hM3⟩; have n5 : w3.cell? ⟨w.heap.size, 5, none⟩ = some (.bool false) := blk_cell (KOut.boxed2 h2.out.st hMk.out h3 hb2'.out (by decide) (by decide)) 5; replace h3 := Aside0.mk (h2.out.call h3); replace hM3 := Aside0.mk hM3; clear n6 hli) | (go_at_call 93; refine (land_any st.code.length (by omega) _ h3.out.st).mono ?_; rintro ee w5 ⟨rfl, h5⟩; have hM5 := Aside0.mk (hM3.out.kept h3.out.st h5); replace h5 := Aside0.mk (h3.out.call (h5.more (some b2))); clear h3 hM3))
  all_goals
    exact ⟨.tuple #[], results_none rfl _ _ _, rfl, _, _, _, h5.out, hM5.out⟩
end Go.Proofs.YtkpnfejfbmandaaDoor.Px
namespace Go.Proofs.YtkpnfejfbmandaaDoor.Px
open Go.RowKit Go.Proofs.YtkpnfejfbmandaaDoorW.PrintWords Go.Proofs.YtkpnfejfbmandaaDoorW.PrintLast Go.Proofs.YtkpnfejfbmandaaDoorW.PrintMore
open Go.Maps Go.ChangeMaps Go.MapKept
set_option linter.unusedVariables false
set_option linter.unusedSimpArgs false
set_option maxHeartbeats 4000000 in
set_option maxRecDepth 100000 in
theorem land_deferred {w0 g b1 b2 v code A c left} (i : Nat) (hi : i < code.length) (u0 : FrameMode) (w : World) (hS : KIn w0 g b1 b2 v code A c left w) :
    CallsD Tryd.prog 93 #[.pointer (some ⟨g, 0, none⟩), .int .i64 i] u0 w fun e u' w' => u' = u0 ∧ (e = .returned (.tuple #[]) ∧ KOut w0 w g b1 b2 none v v (setTo code i code.length) A c left w') := by
  obtain ⟨gr, cr, rfl, hgr, hfr, ⟨u, hcu⟩, hR, hG⟩ := k40_put5 hS.own i hi code.length
  have c0 : w.cell? ⟨g, 0, none⟩ = some (.slice (some ⟨gr, 0, none⟩) code.length cr) := blk_cell hS.blk 0
  have f0 := blk_frozen hS.blk 0
  have hlt := blk_lt hS.blk
  have hi0 : (0 : Int) ≤ (i : Int) := Int.natCast_nonneg i
  have hi1 : (i : Int) < (code.length : Int) := by omega
  have hD := Aside0.mk (hS.out (mb := none)).drew
  replace hR := Aside0.mk hR
  replace hG := Aside0.mk hG
  replace hS := Aside0.mk hS
  go_enter_d Tryd.func93, Tryd.ntmps93
  go_region_held3 (fun w' => w'.cell? ⟨g, 0, none⟩ = some (.slice (some ⟨gr, 0, none⟩) code.length cr)) (first | exact c0 | exact (cell_far (fun e => hgr e.symm) _).trans c0 | go_keep) (fail)
  all_goals exact Go.Great.bodyPost_end0 rfl rfl ⟨rfl, (hS.out.out.landed (gr := gr) (p := ⟨gr, i * 6 + 5, none⟩) rfl rfl hR.out hG.out).drew⟩
end Go.Proofs.YtkpnfejfbmandaaDoor.Px
namespace Go.Proofs.YtkpnfejfbmandaaDoor.Px
open Go.RowKit Go.Proofs.YtkpnfejfbmandaaDoorW.PrintWords Go.Proofs.YtkpnfejfbmandaaDoorW.PrintLast Go.Proofs.YtkpnfejfbmandaaDoorW.PrintMore
open Go.Maps Go.ChangeMaps Go.MapKept
set_option linter.unusedVariables false
set_option linter.unusedSimpArgs false
set_option maxHeartbeats 1000000 in
set_option maxRecDepth 100000 in
theorem gBranch.two (x : S78) (hk : x.f0 = 2) (h5 : x.f5 = true) (h6 : gList.Con x.f6) (h7 : gList.Con x.f7) : gBranch.Con x := by
  intro w0 g b1 b2 v st A A6 A7 c c6 c7 w hS hM hb2 hC6 hc6 hC7 hc7 hsm he hlc hlen
  rw [gN_at, if_neg (by rw [hk]; decide), if_neg (by rw [hk]; decide), if_pos hk, h5, if_pos rfl]
  rw [hk]
  have hs6 : smL x.f6 := by cases x; simp only [smN] at hsm; exact hsm.2.1
  have hs7 : smL x.f7 := by cases x; simp only [smN] at hsm; exact hsm.2.2
  have heN : eN x = eL x.f6 + eL x.f7 := by cases x; simp only at hk h5; simp [eN, hk, h5]
  have he6 : eL x.f6 ≤ st.left.length := by omega
  rw [nN_eq] at hlc hlen
  have hcl : st.code.length ≤ 1000000 := by omega
  have hgl := gL_len x.f6 (st.emit ⟨2, e0, x.f3, false, 0, 0⟩)
  rw [show (st.emit ⟨2, e0, x.f3, false, 0, 0⟩).code.length = st.code.length + 1 from by simp [KS.emit]] at hgl
  have hle := gL_left x.f6 (st.emit ⟨2, e0, x.f3, false, 0, 0⟩)
  have hcn := gL_calls_len x.f6 (st.emit ⟨2, e0, x.f3, false, 0, 0⟩)
  have hl6 : (gL x.f6 (st.emit ⟨2, e0, x.f3, false, 0, 0⟩)).left.length = st.left.length - eL x.f6 := by rw [hle, List.length_drop]; rfl
  replace hcn : (gL x.f6 (st.emit ⟨2, e0, x.f3, false, 0, 0⟩)).calls.length ≤ st.calls.length + nL x.f6 := hcn
  clear hle
  obtain ⟨W1, e1⟩ : ∃ W1, W1 = w.alloc (.cells #[.int .i64 x.f0, .int .i64 x.f1, .string x.f2, .string x.f3, .bool x.f4, .bool true, .slice A6 x.f6.length c6, .slice A7 x.f7.length c7] 78) := ⟨_, rfl⟩
  have hSW : KIn w0 g b1 b2 v st.code A c st.left W1 := by rw [e1]; exact hS.alloc _
  have hOW := Aside0.mk (show KOut w0 w g b1 b2 (some b2) v v st.code A c st.left W1 from by rw [e1]; exact hS.out.alloc _)
  have hMW := Aside0.mk (show MpC W1 b2 st.calls from by rw [e1]; exact hM.alloc _)
  have hbx := Aside0.mk (show W1.heap[w.heap.size]? = some (.cells #[.int .i64 x.f0, .int .i64 x.f1, .string x.f2, .string x.f3, .bool x.f4, .bool true, .slice A6 x.f6.length c6, .slice A7 x.f7.length c7] 78 (0, 0)) from by rw [e1]; exact blk_new _ _)
  have n3 : W1.cell? ⟨w.heap.size, 3, none⟩ = some (.string x.f3) := blk_cell hbx.out 3
  have hem := Aside0.mk (emit_any ⟨2, ⟨#[]⟩, x.f3, false, 0, 0⟩ W1 hSW hcl)
  have hli := Aside0.mk (fun v2 W (h : KIn w0 g b1 b2 v2 (st.emit ⟨2, e0, x.f3, false, 0, 0⟩).code A c (st.emit ⟨2, e0, x.f3, false, 0, 0⟩).left W) (hm : MpC W b2 (st.emit ⟨2, e0, x.f3, false, 0, 0⟩).calls) => h6 w0 g b1 b2 v2 (st.emit ⟨2, e0, x.f3, false, 0, 0⟩) A A6 c c6 W h hm hb2 hC6 hc6 hs6 he6 (by show st.calls.length + _ ≤ _; omega) (by simp only [KS.emit, List.length_append, List.length_singleton]; omega))
  generalize hY : gL x.f6 (st.emit ⟨2, e0, x.f3, false, 0, 0⟩) = Y at *
  have hl2 := Aside0.mk (fun v2 A2 c2 W (h : KIn w0 g b1 b2 v2 ((Y.emit ⟨3, e0, e0, false, 0, 0⟩).land st.code.length).code A2 c2 ((Y.emit ⟨3, e0, e0, false, 0, 0⟩).land st.code.length).left W) (hm : MpC W b2 ((Y.emit ⟨3, e0, e0, false, 0, 0⟩).land st.code.length).calls) => h7 w0 g b1 b2 v2 ((Y.emit ⟨3, e0, e0, false, 0, 0⟩).land st.code.length) A2 A7 c2 c7 W h hm hb2 hC7 hc7 hs7 (by show _ ≤ Y.left.length; omega) (by show Y.calls.length + _ ≤ _; omega) (by simp only [KS.emit, KS.land, setTo_length, List.length_append, List.length_singleton]; omega))
  replace hY := Aside0.mk hY
  have hg2 := gL_len x.f7 ((Y.emit ⟨3, e0, e0, false, 0, 0⟩).land st.code.length)
  rw [show ((Y.emit ⟨3, e0, e0, false, 0, 0⟩).land st.code.length).code.length = Y.code.length + 1 from by simp [KS.emit, KS.land, setTo_length]] at hg2
  replace hSW := Aside0.mk hSW
  rw [hk] at e1
  clear hS hM hC6 hC7 hsm h6 h7
  go_enter_defers Tryd.func92, Tryd.ntmps92
  go_upto_region 1 with fail
  rw [← e1]
  clear e1
  go_wp2_with (first | (go_at_call 59; refine hem.out.mono ?_; rintro ee w2 ⟨rfl, v2, h2⟩; have hMk := Aside0.mk (hMW.out.kept hSW.out h2); have hb2' := Aside0.mk (KOut.boxed hSW.out h2 hbx.out (by decide) (by decide)); replace h2 := Aside0.mk (hOW.out.call (h2.more (some b2))); clear n3 hem; have n6 : w2.cell? ⟨w.heap.size, 6, none⟩ = some (.slice A6 x.f6.length c6) := blk_cell hb2'.out 6) | (go_at_call 58; refine (hli.out _ _ h2.out.st hMk.out).mono ?_; rintro ee w3 ⟨rfl, v3, A3, c3, h3, hM3⟩; have n7 := KOut.boxed2 h2.out.st hMk.out h3 hb2'.out (by decide) (by decide); replace n7 := Aside0.mk n7; have n5 : w3.cell? ⟨w.heap.size, 5, none⟩ = some (.bool true) := blk_cell (KOut.boxed2 h2.out.st hMk.out h3 hb2'.out (by decide) (by decide)) 5; replace h3 := Aside0.mk (h2.out.call h3); replace hM3 := Aside0.mk hM3; clear n6 hli) | (go_at_call 59; refine (emit_any ⟨3, ⟨#[]⟩, ⟨#[]⟩, false, 0, 0⟩ _ h3.out.st (by omega)).mono ?_; rintro ee w4 ⟨rfl, v4, h4⟩; have hM4 := Aside0.mk (hM3.out.kept h3.out.st h4); have n8 := Aside0.mk (KOut.boxed h3.out.st h4 n7.out (by decide) (by decide)); replace h4 := Aside0.mk (h3.out.call (h4.more (some b2))); clear h3 hM3 n5 n7) | (go_at_call 93; refine (land_any st.code.length (by rw [List.length_append, List.length_singleton]; omega) _ h4.out.st).mono ?_; rintro ee w5 ⟨rfl, h5'⟩; have hM5 := Aside0.mk (hM4.out.kept h4.out.st h5'); have n9 := KOut.boxed h4.out.st h5' n8.out (by decide) (by decide); have n7 : w5.cell? ⟨w.heap.size, 7, none⟩ = some (.slice A7 x.f7.length c7) := blk_cell n9 7; clear n9; replace h5' := Aside0.mk (h4.out.call (h5'.more (some b2))); clear h4 hM4) | (go_at_call 58; refine (hl2.out _ _ _ _ h5'.out.st hM5.out).mono ?_; rintro ee w6 ⟨rfl, v6, A6', c6', h6', hM6⟩; replace h6' := Aside0.mk (h5'.out.call h6'); replace hM6 := Aside0.mk hM6; clear n7 hl2 h5' hM5))
  all_goals
    refine leaves_cons (f := 93) (args := #[.pointer (some ⟨g, 0, none⟩), .int .i64 Y.code.length]) (by simp) (by simp [go_sem]) ?_
    refine (land_deferred Y.code.length (by omega) .returning _ h6'.out.st).mono ?_
    rintro e u' w7 ⟨rfl, rfl, h7'⟩
    have hM7 := hM6.out.kept h6'.out.st h7'
    exact ⟨.tuple #[], results_none rfl _ _ _, rfl, _, _, _, h6'.out.call (h7'.more (some b2)), hM7⟩
theorem gBranch.any (x : S78) (hk : x.f0 = 2) (h6 : gList.Con x.f6) (h7 : gList.Con x.f7) : gBranch.Con x := by
  cases h5 : x.f5
  · exact gBranch.one x hk h5 h6
  · exact gBranch.two x hk h5 h6 h7
theorem gen_all : ∀ (n : Nat), (∀ l : List S78, SizeOf.sizeOf l < n → gList.Con l) := by
  intro n
  induction n with
  | zero => intro l h; exact absurd h (Nat.not_lt_zero _)
  | succ n ih =>
    intro l h
    refine gList.step l fun x hx => ?_
    have h1 := List.sizeOf_lt_of_mem hx
    have h2 : SizeOf.sizeOf x.f6 < SizeOf.sizeOf x ∧ SizeOf.sizeOf x.f7 < SizeOf.sizeOf x := by cases x; simp; omega
    exact gNode.any x (ih _ (by omega)) (fun hk => gBranch.any x hk (ih _ (by omega)) (ih _ (by omega)))
theorem gen_list (l : List S78) : gList.Con l := gen_all _ l (Nat.lt_succ_self _)
end Go.Proofs.YtkpnfejfbmandaaDoor.Px
namespace Go.Proofs.YtkpnfejfbmandaaDoor.Px
open Go.RowKit Go.Proofs.YtkpnfejfbmandaaDoorW.PrintWords Go.Proofs.YtkpnfejfbmandaaDoorW.PrintLast Go.Proofs.YtkpnfejfbmandaaDoorW.PrintMore
open Go.Maps Go.ChangeMaps Go.MapKept
set_option linter.unusedVariables false
set_option linter.unusedSimpArgs false
theorem modify_mid {α : Type} (f : α → α) (x : α) (B : List α) : ∀ (A : List α), (A ++ x :: B).modify A.length f = A ++ f x :: B
  | [] => rfl
  | a :: A => by
    rw [List.cons_append, List.length_cons, List.modify_succ_cons, modify_mid f x B A]
    rfl
def escL (vs : List Value) : List MapEntry := vs.zipIdx.map fun p => { key := .int .i64 p.2, val := p.1, born := p.2 }
def EscB (w : World) (b : Nat) (vs : List Value) : Prop := w.heap[b]? = some (.map (escL vs).toArray vs.length)
def mapW (w : World) (b : Nat) (es : Array MapEntry) (n : Nat) : World := { w with heap := w.heap.setIfInBounds b (.map es n) }
theorem escL_snoc (vs : List Value) (v : Value) : escL (vs ++ [v]) = escL vs ++ [{ key := .int .i64 vs.length, val := v, born := vs.length }] := by
  unfold escL
  rw [List.zipIdx_append]
  simp
theorem escL_len (vs : List Value) : (escL vs).length = vs.length := by simp [escL]
theorem escL_at (vs : List Value) (j : Nat) : (escL vs)[j]? = (vs[j]?).map fun v => { key := .int .i64 j, val := v, born := j } := by
  unfold escL
  rw [List.getElem?_map, List.getElem?_zipIdx]
  cases vs[j]? <;> simp
theorem escL_mem {vs : List Value} {x : MapEntry} (h : x ∈ escL vs) : ∃ j, j < vs.length ∧ x.key = .int .i64 j ∧ x.born = j := by
  obtain ⟨j, hj⟩ := List.mem_iff_getElem?.1 h
  rw [escL_at] at hj
  obtain ⟨v, hv, rfl⟩ := Option.map_eq_some_iff.1 hj
  exact ⟨j, (List.getElem?_eq_some_iff.1 hv).1, rfl, rfl⟩
theorem escL_key (vs : List Value) : ∀ x ∈ escL vs, IsKey (.int .i64) x.key := fun x hx => by
  obtain ⟨j, _, e, _⟩ := escL_mem hx
  rw [e]; rfl
theorem EscB.lt {w b vs} (h : EscB w b vs) : b < w.heap.size := (Array.getElem?_eq_some_iff.1 h).1
theorem EscB.move {w w1 b vs} (h : EscB w b vs) (hb : w1.heap[b]? = w.heap[b]?) : EscB w1 b vs := hb.trans h
theorem EscB.alloc {w b vs} (h : EscB w b vs) (o : Obj) : EscB (w.alloc o) b vs := h.move (Below.heap_alloc w o b h.lt)
theorem EscB.drew {w b vs} (h : EscB w b vs) : EscB w.drew b vs := h
theorem EscB.start (w : World) : EscB (w.alloc (.map #[] 0)) w.heap.size [] := by
  unfold EscB
  exact (heap_alloc w (.map #[] 0)).1
theorem zero35 (w : World) : (zeroValue 35).run Tryd.prog w = .ok (.slice none 0 0) w := by kernel_rfl
theorem EscB.entry {w b vs} (h : EscB w b vs) : (Instr.mapEntry 119 (.map (some b)) (.int .i64 vs.length)).run Tryd.prog w = .ok (.tuple #[.slice none 0 0, .int .i64 vs.length]) (mapW w b ((escL vs).toArray.push { key := .int .i64 vs.length, val := .slice none 0 0, born := vs.length }) (vs.length + 1)) := by
  have hk : IsKey (.int .i64) (.int .i64 vs.length) := rfl
  rcases findNow_spec hk (escL vs) 0 (escL_key vs) with ⟨h1, h2⟩ | ⟨j, e, h1, h2, h3⟩
  · simp only [Instr.mapEntry, Sem.run_bind, run_underlying Tryd.underlying119, Go.MapKept.run_getObj_map h, Go.MapKept.run_checkKey Tryd.underlying3 hk, Go.MapKept.run_findKey Tryd.underlying3 h1, Result.andThen, zero35, Go.MapKept.run_setObj_map _ h]
    rfl
  · exfalso
    obtain ⟨q, hq, e1, _⟩ := escL_mem (List.mem_of_getElem? h2)
    rw [h3] at e1
    have : (vs.length : Int) = q := by simpa using e1
    omega
theorem mapW_at {w : World} {b : Nat} (hb : b < w.heap.size) (es : Array MapEntry) (n : Nat) : (mapW w b es n).heap[b]? = some (.map es n) := by simp [mapW, hb]
theorem mapW_grown {w : World} {b : Nat} {o : Obj} (h : w.heap[b]? = some o) (es : Array MapEntry) (n : Nat) : w.grownBy (mapW w b es n) (some b) :=
  ⟨rfl, rfl, rfl, by simp [mapW], fun i hi hne => by
    have : b ≠ i := fun e => hne (by rw [e])
    simp [mapW, this]⟩
theorem mapW_twice (w : World) (b : Nat) (es es2 : Array MapEntry) (n n2 : Nat) : mapW (mapW w b es n) b es2 n2 = mapW w b es2 n2 := by simp [mapW]
theorem EscB.store {w b vs} (h : EscB w b vs) (v : Value) : (Instr.entryStore 119 (.map (some b)) (.int .i64 vs.length) v).run Tryd.prog (mapW w b ((escL vs).toArray.push { key := .int .i64 vs.length, val := .slice none 0 0, born := vs.length }) (vs.length + 1)) = .ok () (mapW w b (escL (vs ++ [v])).toArray (vs.length + 1)) := by
  have hb := mapW_at h.lt ((escL vs).toArray.push { key := .int .i64 vs.length, val := .slice none 0 0, born := vs.length }) (vs.length + 1)
  have hai : (asInt (.int .i64 vs.length)).run Tryd.prog (mapW w b ((escL vs).toArray.push { key := .int .i64 vs.length, val := .slice none 0 0, born := vs.length }) (vs.length + 1)) = .ok (vs.length : Int) (mapW w b ((escL vs).toArray.push { key := .int .i64 vs.length, val := .slice none 0 0, born := vs.length }) (vs.length + 1)) := rfl
  have hf : ((escL vs).toArray.push { key := .int .i64 vs.length, val := .slice none 0 0, born := vs.length : MapEntry }).findIdx? (fun e => (e.born : Int) == (vs.length : Int)) = some vs.length := by
    rw [Array.findIdx?_eq_some_iff_getElem]
    refine ⟨by simp [escL_len], ?_, fun j hj => ?_⟩
    · simp [escL_len]
    · have hj' : j < (escL vs).length := by rw [escL_len]; exact hj
      rw [Array.getElem_push_lt (by simpa using hj')]
      obtain ⟨q, hq, _, e2⟩ := escL_mem (List.getElem_mem hj')
      have e3 : (escL vs)[j].born = j := by
        have := escL_at vs j
        rw [List.getElem?_eq_getElem hj', List.getElem?_eq_getElem hj] at this
        simp at this
        rw [this]
      simp only [List.getElem_toArray, e3]
      simp
      omega
  simp only [Instr.entryStore, Sem.run_bind, Go.MapKept.run_getObj_map hb, Result.andThen, hai, hf]
  rw [Go.MapKept.run_setObj_map _ hb]
  congr 1
  show mapW (mapW w b _ _) b _ _ = _
  rw [mapW_twice]
  congr 1
  rw [escL_snoc]
  apply Array.ext'
  simp [Array.toList_modify]
  have := modify_mid (fun e : MapEntry => { e with val := v }) { key := .int .i64 vs.length, val := .slice none 0 0, born := vs.length } [] (escL vs)
  rw [escL_len] at this
  exact this
theorem EscB.stored {w b vs} (h : EscB w b vs) (v : Value) : EscB (mapW w b (escL (vs ++ [v])).toArray (vs.length + 1)) b (vs ++ [v]) := by
  unfold EscB
  rw [mapW_at h.lt, List.length_append, List.length_singleton]
theorem EscB.look {w b vs} (h : EscB w b vs) (i : Nat) {v : Value} (hi : vs[i]? = some v) : (Instr.lookup 119 (.map (some b)) (.int .i64 i) false).run Tryd.prog w = .ok v w := by
  have hk : IsKey (.int .i64) (.int .i64 i) := rfl
  have hil := (List.getElem?_eq_some_iff.1 hi).1
  rcases findNow_spec hk (escL vs) 0 (escL_key vs) with ⟨h1, h2⟩ | ⟨j, e, h1, h2, h3⟩
  · exfalso
    have hx := escL_at vs i
    rw [hi] at hx
    exact h2 _ (List.mem_of_getElem? hx) rfl
  · rw [escL_at] at h2
    obtain ⟨u, hu, rfl⟩ := Option.map_eq_some_iff.1 h2
    have : (j : Int) = i := by simpa using h3
    have hji : j = i := by omega
    subst hji
    rw [hi] at hu
    obtain rfl := Option.some.inj hu
    simp only [Instr.lookup, Sem.run_bind, run_underlying Tryd.underlying119, Go.MapKept.run_getObj_map h, Go.MapKept.run_checkKey Tryd.underlying3 hk, Go.MapKept.run_findKey Tryd.underlying3 h1, Result.andThen, Sem.run_pure]
    rfl
end Go.Proofs.YtkpnfejfbmandaaDoor.Px
namespace Go.Proofs.YtkpnfejfbmandaaDoor.Px
open Go.RowKit Go.Proofs.YtkpnfejfbmandaaDoorW.PrintWords Go.Proofs.YtkpnfejfbmandaaDoorW.PrintLast Go.Proofs.YtkpnfejfbmandaaDoorW.PrintMore
open Go.Maps Go.ChangeMaps Go.MapKept
set_option linter.unusedVariables false
set_option linter.unusedSimpArgs false
abbrev nodC (x : S78) (A6 A7 : Option Addr) (c6 c7 : Nat) : Array Value := #[.int .i64 x.f0, .int .i64 x.f1, .string x.f2, .string x.f3, .bool x.f4, .bool x.f5, .slice A6 x.f6.length c6, .slice A7 x.f7.length c7]
theorem C_box {W : World} {B : Nat} {x : S78} {A6 A7 : Option Addr} {c6 c7 : Nat} (hb : W.heap[B]? = some (.cells (nodC x A6 A7 c6 c7) 78 (0, 0))) (l6 : x.f6.length ≤ c6) (g6 : Kd.C k78 W A6 x.f6.length x.f6) (l7 : x.f7.length ≤ c7) (g7 : Kd.C k78 W A7 x.f7.length x.f7) :
    Kd.C k78 W (some ⟨B, 0, none⟩) [x].length [x] := by
  refine ⟨rfl, by simp, fun _ => ⟨⟨B, 0, none⟩, rfl, fun j p hj => ?_⟩⟩
  cases j with
  | succ j => simp at hj
  | zero =>
    obtain rfl : x = p := by simpa using hj
    refine ⟨_, rfl, k78_mk W x l6 g6 l7 g7, fun i u hu => ?_⟩
    have hc := blk_cell hb i
    have e : (⟨B, 0, none⟩ : Addr).add (0 * k78.sz + i) = ⟨B, i, none⟩ := by
      unfold Addr.add
      simp
      try (intro h; omega)
    rw [e, hc]
    simpa using hu
theorem KIn.lefted {w0 g b1 b2 v code A c left W} (h : KIn w0 g b1 b2 v code A c left W) {A' : Option Addr} {c' : Nat} {es : List Int} (hC : Kd.C (Kd.int .i64) w0 A' es.length es) (hle : es.length ≤ c') :
    KOut w0 W g b1 b2 none v v code A' c' es (W.setCell ⟨g, 2, none⟩ (.slice A' es.length c')) :=
  ⟨⟨blk_set h.blk 2 _, Kd.R_far h.own (fun _ h => h) _, hC, hle, h.bel.setCell h.ge _, h.ge⟩, (Kp3.refl _ _ _ _).set 2 _, .inl rfl⟩
theorem EscB.ne_g {w b vs w0 g b1 b2 v code A c left} (h : EscB w b vs) (hS : KIn w0 g b1 b2 v code A c left w) : b ≠ g := by
  rintro rfl
  have h1 : w.heap[b]? = _ := h
  rw [hS.blk] at h1
  cases h1
theorem EscB.ne_row {w b vs w0 g b1 b2 v code A c left} (h : EscB w b vs) (hS : KIn w0 g b1 b2 v code A c left w) : some b ≠ v.ownBlock := by
  intro e
  have h1 : w.heap[b]? = _ := h
  obtain ⟨_, inner, ho, _⟩ := hS.own
  rcases ho.2 with ⟨rfl, _⟩ | ⟨g', cap, cur, rfl, _, hh, _⟩
  · cases e
  · obtain rfl : b = g' := by simpa [Value.ownBlock] using e
    rw [hh] at h1
    cases h1
theorem EscB.kept {w b vs w0 g b1 b2 v v2 code A c left code2 A2 c2 left2 W} (h : EscB w b vs) (hne : b ≠ b2) (hS : KIn w0 g b1 b2 v code A c left w) (hO : KOut w0 w g b1 b2 (some b2) v v2 code2 A2 c2 left2 W) : EscB W b vs :=
  h.move (hO.keep.2 b h.lt (h.ne_g hS) (by simpa using hne) (h.ne_row hS))
set_option maxHeartbeats 1000000 in
set_option maxRecDepth 100000 in
theorem list1_any (x : S78) (hN : gNode.Con x) (w0 : World) (g b1 b2 : Nat) (v : Value) (st : KS) (A A6 A7 : Option Addr) (c c6 c7 B : Nat) (w : World) (hS : KIn w0 g b1 b2 v st.code A c st.left w) (hM : MpC w b2 st.calls) (hb2 : w0.heap.size ≤ b2)
    (hb : w.heap[B]? = some (.cells (nodC x A6 A7 c6 c7) 78 (0, 0))) (hC6 : Kd.C k78 w0 A6 x.f6.length x.f6) (hc6 : x.f6.length ≤ c6) (hC7 : Kd.C k78 w0 A7 x.f7.length x.f7) (hc7 : x.f7.length ≤ c7) (hsm : smN x) (he : eN x ≤ st.left.length) (hlc : st.calls.length + nN x ≤ 1000000) (hlen : st.code.length + 2 * nN x ≤ 1000000) :
    Calls Tryd.prog 58 #[.pointer (some ⟨g, 0, none⟩), .slice (some ⟨B, 0, none⟩) 1 1] w fun e w' =>
      e = .returned (.tuple #[]) ∧ ∃ v' A' c', KOut w0 w g b1 b2 (some b2) v v' (gN x st).code A' c' (gN x st).left w' ∧ MpC w' b2 (gN x st).calls := by
  have hcall := Aside0.mk (fun W hk hm => hN w0 g b1 b2 v st A A6 A7 c c6 c7 W hk hm hb2 hC6 hc6 hC7 hc7 hsm he hlc hlen)
  generalize gN x st = Y at *
  have x0 : w.cell? ⟨B, 0, none⟩ = some (.int .i64 x.f0) := blk_cell hb 0
  have x1 : w.cell? ⟨B, 1, none⟩ = some (.int .i64 x.f1) := blk_cell hb 1
  have x2 : w.cell? ⟨B, 2, none⟩ = some (.string x.f2) := blk_cell hb 2
  have x3 : w.cell? ⟨B, 3, none⟩ = some (.string x.f3) := blk_cell hb 3
  have x4 : w.cell? ⟨B, 4, none⟩ = some (.bool x.f4) := blk_cell hb 4
  have x5 : w.cell? ⟨B, 5, none⟩ = some (.bool x.f5) := blk_cell hb 5
  have x6 : w.cell? ⟨B, 6, none⟩ = some (.slice A6 x.f6.length c6) := blk_cell hb 6
  have x7 : w.cell? ⟨B, 7, none⟩ = some (.slice A7 x.f7.length c7) := blk_cell hb 7
  have hbl := blk_lt hb
  replace hS := Aside0.mk hS
  replace hM := Aside0.mk hM
  clear hC6 hC7 hsm he hlc hlen hb hN
  go_enter Tryd.func58, Tryd.ntmps58
  go_wp2
  go_loopg [8] 1 (fun kq v8 wr => (kq = 1 ∧ v8 = .int .i64 0 ∧ wr = w) ∨ (kq = 0 ∧ v8 = .int .i64 1 ∧ ∃ v' A' c', KOut w0 w g b1 b2 (some b2) v v' Y.code A' c' Y.left wr ∧ MpC wr b2 Y.calls))
  case atStart => exact .inl ⟨rfl, rfl, rfl⟩
  case round =>
    rcases hrel with ⟨rfl, rfl, rfl⟩ | ⟨rfl, rfl, v2, A2, c2, h2, hM2⟩
    · have hgr := blk_lt hS.out.blk
      go_wp2_with (go_at_call 80; refine (hcall.out _ (hS.out.alloc _) (hM.out.alloc _)).mono ?_; rintro e w3 ⟨rfl, v2, A2, c2, h3, hM3⟩; replace h3 := Aside0.mk ((hS.out.out.alloc _).call h3); replace hM3 := Aside0.mk hM3; clear hcall x0 x1 x2 x3 x4 x5 x6 x7)
      go_roundg 0
      case measure => decide
      case rel => exact .inr ⟨rfl, by simp, v2, A2, c2, h3.out, hM3.out⟩
    · replace h2 := Aside0.mk h2
      replace hM2 := Aside0.mk hM2
      clear hcall x0 x1 x2 x3 x4 x5 x6 x7
      go_wp2
      exact Go.Great.bodyPost_end0 rfl rfl ⟨rfl, _, _, _, h2.out, hM2.out⟩
set_option maxHeartbeats 1000000 in
set_option maxRecDepth 100000 in
theorem top_any {w0 g b1 b2 v code A c left} (i : Nat) (L : Value) (es : List Int) (A' : Option Addr) (c' p : Nat) (w : World) (hS : KIn w0 g b1 b2 v code A c left w) (vs : List Value) (hE : EscB w b1 vs) (hv : vs[i]? = some (.slice A' es.length c'))
    (hC : Kd.C (Kd.int .i64) w0 A' es.length es) (hle : es.length ≤ c') (hp : w.heap[p]? = some (.cells #[.pointer (some ⟨g, 0, none⟩)] 118 (0, 0))) (Q : World → Prop)
    (hcall : ∀ W, KOut w0 w g b1 b2 none v v code A' c' es W → Calls Tryd.prog 58 #[.pointer (some ⟨g, 0, none⟩), L] W fun e w' => e = .returned (.tuple #[]) ∧ Q w') :
    Calls Tryd.prog 57 #[.int .i64 i, L, .pointer (some ⟨p, 0, none⟩)] w fun e w' => e = .returned (.tuple #[]) ∧ Q w' := by
  have p0 : w.cell? ⟨p, 0, none⟩ = some (.pointer (some ⟨g, 0, none⟩)) := blk_cell hp 0
  have g1 : w.cell? ⟨g, 1, none⟩ = some (.map (some b1)) := blk_cell hS.blk 1
  have g2 : w.cell? ⟨g, 2, none⟩ = some (.slice A left.length c) := blk_cell hS.blk 2
  have f2 := blk_frozen hS.blk 2
  have hlg := blk_lt hS.blk
  have hlp := blk_lt hp
  have hpg : p ≠ g := fun e => by rw [e, hS.blk] at hp; cases hp
  have hlook := hE.drew.look i hv
  have hK := Aside0.mk (hS.drew.lefted hC hle)
  have hD := Aside0.mk (hS.out (mb := none)).drew
  replace hcall := Aside0.mk hcall
  replace hS := Aside0.mk hS
  clear hC hp hE
  go_enter Tryd.func57, Tryd.ntmps57
  go_upto_region 0 with fail
  refine wp_region_still_tail 9 (by kernel_rfl) (by kernel_rfl) ?_
  simp only [List.take_succ_cons, List.take_zero, List.drop_succ_cons, List.drop_zero]
  change wpStill _ _ (World.drew _) (fun a' => wpList _ _ _ _ a' (World.drew _)) _ _
  repeat (refine wpStill_step (fun K hK => ?_); go_simp; refine hK _ ?_; clear hK K)
  refine wpStill_nil ?_
  have p1 : (w.drew.setCell ⟨g, 2, none⟩ (.slice A' es.length c')).cell? ⟨p, 0, none⟩ = some (.pointer (some ⟨g, 0, none⟩)) := (cell_far hpg _).trans p0
  go_wp2_with (go_at_call 58; refine (hcall.out _ (hD.out.call hK.out)).mono ?_; rintro e w3 ⟨rfl, h3⟩; replace h3 := Aside0.mk h3)
  exact Go.Great.bodyPost_end0 rfl rfl ⟨rfl, h3.out⟩
end Go.Proofs.YtkpnfejfbmandaaDoor.Px
