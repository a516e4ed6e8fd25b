import Derived.RangeFuncNested
import Derived.RangeFuncBound
import Derived.RangeFuncCalls
import Derived.RangeFuncLeaves
import Derived.Shelf.Abstract
import Derived.OwnWalkIn
import Derived.TacticsInMore
import Derived.LoopNIn
import Derived.LoopIn
import Derived.BigFrameIn
import Derived.Test.YtgdpojleejdfaaaDoorRTMd
import Derived.Test.YtgdpojleejdfaaaDoorRTEq
/- Contracts of printer.visit, printer.tokens, printer.Format. -/
namespace Go.Proofs.YtgdpojleejdfaaaDoor.Px
open Go.RowKit Go.Proofs.YtgdpojleejdfaaaDoorW.PrintWords Go.Proofs.YtgdpojleejdfaaaDoorW.PrintLast Go.Proofs.YtgdpojleejdfaaaDoorW.PrintMore
set_option linter.unusedVariables false
set_option linter.unusedSimpArgs false
attribute [local go_sem] Oper.semAt_some
theorem wpListIn_off {F : Fence} {n : Nat} {P : Program} {ops : Array Oper} {Q : Exit → Act → World → Prop} {a : Act} {w : World} {rest : List Oper} {o : Oper} (hw : Region.wanted o (yielded ops a.tmps) = false) (hF : ∀ f, F.fn f)
    (h : ∀ K : Act → World → Prop, (∀ a w, wpListIn F n P ops Q rest a w → K a w) → K (a.put o.dst undef) w) : wpListIn F n P ops Q (o :: rest) a w :=
  wpListIn_step fun K hK => by
    rw [if_neg (by rw [hw]; decide)]
    exact ⟨fun f _ => hF f, h K hK⟩
theorem wide_fn (f : FuncId) : Fence.wide.fn f := True.intro
theorem room_of_none {F : Fence} (hd : F.depth = none) (k : Nat) : F.room k := fun d h => by rw [hd] at h; cases h
theorem RoundIn.anyDepth {F : Fence} (hd : F.depth = none) {m m' : Nat} {P : Program} {l : Nat} {f : FuncId} {tmps : Array Value} {assign body : Code} {w : World} {R : Ending → World → Prop}
    (h : RoundIn F m P l f tmps assign body w R) : RoundIn F m' P l f tmps assign body w R := ⟨h.1, fun c cs _ => h.2 c cs (room_of_none hd _)⟩
theorem YieldAt.anyDepth {F : Fence} (hd : F.depth = none) {m : Nat} (m' : Nat) {P : Program} {l : Nat} {args : Array Value} {W : World} {R : Ending → World → Prop} (h : YieldAt F m P l args W R) : YieldAt F m' P l args W R := by
  obtain ⟨fn, tmps, assign, body, hy, hR⟩ := h
  exact ⟨fn, tmps, assign, body, hy, RoundIn.anyDepth hd hR⟩
abbrev Tk := Int × ByteArray × ByteArray × Bool
def tkV (x : Tk) : Value := .agg #[.int .i64 x.1, .int .i64 0, .string x.2.1, .string x.2.2.1, .bool x.2.2.2]
def tkElse : Tk := (7, ⟨#[]⟩, ⟨#[]⟩, false)
def tkEnd : Tk := (8, ⟨#[]⟩, ⟨#[]⟩, false)
mutual
def toksL : List S39 → List Tk
  | [] => []
  | x :: xs => toksN x ++ toksL xs
def toksN : S39 → List Tk
  | ⟨k, _, s, p, h, e, b, l⟩ => (k, s, p, h) :: (if k = 2 ∨ k = 3 ∨ k = 6 then toksL b ++ ((if e = true then tkElse :: toksL l else []) ++ [tkEnd]) else [])
end
theorem toksN_eq (x : S39) : toksN x = (x.f0, x.f2, x.f3, x.f4) :: (if x.f0 = 2 ∨ x.f0 = 3 ∨ x.f0 = 6 then toksL x.f6 ++ ((if x.f5 = true then tkElse :: toksL x.f7 else []) ++ [tkEnd]) else []) := by cases x; simp [toksN]
theorem toksL_cons (x : S39) (xs : List S39) : toksL (x :: xs) = toksN x ++ toksL xs := by simp [toksL]
theorem toksL_append : ∀ (xs ys : List S39), toksL (xs ++ ys) = toksL xs ++ toksL ys
  | [], ys => by simp [toksL]
  | x :: xs, ys => by rw [List.cons_append, toksL_cons, toksL_cons, toksL_append xs ys, List.append_assoc]
/-- Rows of nodes stand. -/
def KT (A B : World) : Prop := A.heap.size ≤ B.heap.size ∧ ∀ (k : Nat) (cs : Array Value) (fr : Nat × Nat), A.heap[k]? = some (Obj.cells cs 39 fr) → B.heap[k]? = some (Obj.cells cs 39 fr)
theorem KT.refl (A : World) : KT A A := ⟨Nat.le_refl _, fun _ _ _ h => h⟩
theorem KT.trans {A B C : World} (h : KT A B) (k : KT B C) : KT A C := ⟨Nat.le_trans h.1 k.1, fun _ _ _ hh => k.2 _ _ _ (h.2 _ _ _ hh)⟩
theorem KT.alloc (A : World) (o : Obj) : KT A (A.alloc o) := ⟨by simp, fun k cs fr h => blk_alloc h o⟩
section
variable (P : Tk → Prop) (w0 : World) (l N : Nat) (J Jx : List Tk → World → Prop)
abbrev YOK : Prop := ∀ m pre x W, P x → Below w0.heap.size w0 W → J pre W → pre.length < N → YieldAt Fence.wide m Tryd.prog l #[tkV x] W fun e W' =>
      (e = .returned (.bool true) ∧ J (pre ++ [x]) W' ∧ Below w0.heap.size w0 W' ∧ KT W W') ∨ (e = .returned (.bool false) ∧ Jx (pre ++ [x]) W')
abbrev visit.Con (a : List S39) : Prop := ∀ (n : Nat) (A : Option Addr) (c : Nat) (pre : List Tk) (W : World), (∀ y ∈ toksL a, P y) → Kd.C k39 w0 A a.length a → a.length ≤ c → Below w0.heap.size w0 W → J pre W → pre.length + (toksL a).length ≤ N →
  CallsIn Fence.wide n Tryd.prog 73 #[.slice A a.length c, .func (.yield l) #[] #[]] W fun e W' =>
    (e = .returned (.bool true) ∧ J (pre ++ toksL a) W' ∧ Below w0.heap.size w0 W' ∧ KT W W') ∨ (e = .returned (.bool false) ∧ ∃ q, Jx q W')
end
def ViRel (w0 W0 : World) (J : List Tk → World → Prop) (a : List S39) (pre : List Tk) (v9 : Value) (wr : World) : Prop :=
  ∃ i : Nat, i ≤ a.length ∧ v9 = .int .i64 i ∧ J (pre ++ toksL (a.take i)) wr ∧ Below w0.heap.size w0 wr ∧ KT W0 wr
set_option maxHeartbeats 2000000 in
set_option maxRecDepth 100000 in
theorem visit_step (P : Tk → Prop) (w0 : World) (l N : Nat) (J Jx : List Tk → World → Prop) (hJ : ∀ pre W o, J pre W → J pre (W.alloc o)) (hY : YOK P w0 l N J Jx) (a : List S39)
    (hx : ∀ x ∈ a, visit.Con P w0 l N J Jx x.f6 ∧ visit.Con P w0 l N J Jx x.f7) : visit.Con P w0 l N J Jx a := by
  intro n A c pre W hP ha hc hB h0 hN
  have hm := Kd.C_max ha
  have HY := Aside0.mk hY
  have HP := Aside0.mk hP
  have HX := Aside0.mk hx
  have HJ := Aside0.mk hJ
  replace ha := Aside0.mk ha
  replace hN := Aside0.mk hN
  have H0 : ViRel w0 W J a pre (.int .i64 0) W := ⟨0, Nat.zero_le _, rfl, by simpa [toksL] using h0, hB, KT.refl _⟩
  clear hP hY hx hJ hB h0
  refine callsIn_of_wp Tryd.func73 rfl trivial ?_ rfl
  simp only [Tryd.ntmps73, List.size_toArray, List.length_cons, List.length_nil, Nat.reduceAdd, Nat.reduceSub, Array.replicate_succ, Array.replicate_zero, List.push_toArray, List.append_toArray, List.nil_append, List.cons_append]
  gi_wp2
  gi_loopw [9] (fun v wr => ViRel w0 W J a pre v wr) (fun v _ => a.length - (intOf v).toNat)
  case atStart => exact H0
  case round =>
    clear H0
    obtain ⟨i, hi, rfl, hj, hB, hK⟩ := hrel
    by_cases hlt : i < a.length
    case neg =>
      obtain rfl : i = a.length := by omega
      rw [List.take_length] at hj
      replace hj := Aside0.mk hj
      replace hB := Aside0.mk hB
      replace hK := Aside0.mk hK
      gi_wp2
      go_ret
      exact .inl ⟨rfl, hj.out, hB.out, hK.out⟩
    have hx := HX.out a[i] (List.getElem_mem hlt)
    have htk : toksL a = toksL (a.take i) ++ (toksN a[i] ++ toksL (a.drop (i + 1))) := by
      have h1 : a = a.take i ++ (a[i] :: a.drop (i + 1)) := by rw [← List.drop_eq_getElem_cons hlt, List.take_append_drop]
      calc toksL a = toksL (a.take i ++ (a[i] :: a.drop (i + 1))) := congrArg toksL h1
        _ = _ := by rw [toksL_append, toksL_cons]
    have htk1 : toksL (a.take (i + 1)) = toksL (a.take i) ++ toksN a[i] := by rw [List.take_succ_eq_append_getElem hlt, toksL_append, toksL_cons]; simp [toksL]
    obtain ⟨ad, A6, c6, A7, c7, rfl, x0, x1, x2, x3, x4, x5, x6, x7, l6, g6, l7, g7⟩ := at_T39 ha.out (i : Int) (by omega) (by omega)
    rw [rd_T39_at a i hlt] at x0 x1 x2 x3 x4 x5 x6 x7 l6 g6 l7 g7
    rw [Int.toNat_natCast] at x0 x1 x2 x3 x4 x5 x6 x7
    have old : ∀ {q : Addr} {v : Value}, w0.cell? q = some v → wr.cell? q = some v := fun h => (hB.cell (World.block_lt_of_cell? _ _ h)).trans h
    replace x0 := old x0
    replace x1 := old x1
    replace x2 := old x2
    replace x3 := old x3
    replace x4 := old x4
    replace x5 := old x5
    replace x6 := old x6
    replace x7 := old x7
    clear old
    have hPN := Aside0.mk (show ∀ y ∈ toksN a[i], P y from fun y hy => HP.out y (by rw [htk]; simp [hy]))
    have hTN := Aside0.mk (toksN_eq a[i])
    have hTK := Aside0.mk htk
    have hT1 := Aside0.mk htk1
    clear htk htk1
    have HX6 := Aside0.mk hx.1
    have HX7 := Aside0.mk hx.2
    clear hx
    generalize a[i] = x at *
    replace g6 := Aside0.mk (And.intro g6 l6)
    replace g7 := Aside0.mk (And.intro g7 l7)
    clear l6 l7
    have hlen : (pre ++ toksL (a.take i)).length + (toksN x).length ≤ N := by
      have := hN.out; rw [hTK.out] at this; simp only [List.length_append] at this ⊢; omega
    have hlen1 : (pre ++ toksL (a.take i)).length < N := by rw [hTN.out] at hlen; simp only [List.length_cons] at hlen; omega
    replace hlen := Aside0.mk hlen
    obtain ⟨W1, hW1⟩ : ∃ W1, W1 = wr.alloc (.cells #[.int .i64 x.f0, .int .i64 x.f1, .string x.f2, .string x.f3, .bool x.f4, .bool x.f5, .slice A6 x.f6.length c6, .slice A7 x.f7.length c7] 39) := ⟨_, rfl⟩
    have hB1 : Below w0.heap.size w0 W1 := by rw [hW1]; exact below_alloc hB _
    have hK1 : KT W W1 := by rw [hW1]; exact hK.trans (KT.alloc _ _)
    have hj1 : J (pre ++ toksL (a.take i)) W1 := by rw [hW1]; exact HJ.out _ _ _ hj
    have hb1 : W1.heap[wr.heap.size]? = some (.cells #[.int .i64 x.f0, .int .i64 x.f1, .string x.f2, .string x.f3, .bool x.f4, .bool x.f5, .slice A6 x.f6.length c6, .slice A7 x.f7.length c7] 39 (0, 0)) := by rw [hW1]; exact blk_new _ _
    obtain ⟨fn, tmps, assign, body, hy, hR⟩ := HY.out (n - 1) _ (x.f0, x.f2, x.f3, x.f4) W1 (hPN.out _ (by rw [hTN.out]; simp)) hB1 hj1 hlen1
    rw [hW1] at hy hR
    dsimp only [tkV] at hy
    replace hR := Aside0.mk hR
    replace hj := Aside0.mk hj1
    replace hB := Aside0.mk hB1
    replace hK := Aside0.mk hK1
    replace hb1 := Aside0.mk hb1
    have HW1 := Aside0.mk hW1
    clear hB1 hj1 hK1 hW1 hlen1
    gi_wp2_with fail
    refine ⟨fun h => (by cases h), ?_⟩
    refine hR.out.mono ?_
    rintro e W2 (⟨rfl, hjW2, hBW2, hKW2⟩ | ⟨rfl, hx⟩)
    case inr =>
      gi_wp2_with (refine wpListIn_off rfl wide_fn (fun _ _ => ?_); go_simp)
      go_ret
      exact .inr ⟨rfl, _, hx⟩
    rw [← HW1.out] at hKW2
    have hKT := hK
    have hbW1 := hb1
    clear hR hy fn tmps assign body hj hB hK hb1 x0 x1 x2 x3 x4 x5 x6 x7
    have hbW2 := hKW2.2 _ _ _ hbW1.out
    have y0_W2 : W2.cell? ⟨wr.heap.size, 0, none⟩ = some (.int .i64 x.f0) := (blk_cell hbW2 0).trans rfl
    have y5_W2 : W2.cell? ⟨wr.heap.size, 5, none⟩ = some (.bool x.f5) := (blk_cell hbW2 5).trans rfl
    have y6_W2 : W2.cell? ⟨wr.heap.size, 6, none⟩ = some (.slice A6 x.f6.length c6) := (blk_cell hbW2 6).trans rfl
    have y7_W2 : W2.cell? ⟨wr.heap.size, 7, none⟩ = some (.slice A7 x.f7.length c7) := (blk_cell hbW2 7).trans rfl
    replace hKT := Aside0.mk (hKT.out.trans hKW2)
    replace hbW2 := Aside0.mk hbW2
    replace hjW2 := Aside0.mk hjW2
    replace hBW2 := Aside0.mk hBW2
    clear hKW2 hbW1
    by_cases hblk : x.f0 = 2 ∨ x.f0 = 3 ∨ x.f0 = 6
    case neg =>
      have hT2 := Aside0.mk (show toksN x = [(x.f0, x.f2, x.f3, x.f4)] by rw [hTN.out, if_neg hblk])
      have e2 : (x.f0 != 2) = true := by rw [bne_iff_ne]; exact fun e => hblk (.inl e)
      have e3 : (x.f0 != 3) = true := by rw [bne_iff_ne]; exact fun e => hblk (.inr (.inl e))
      have e6 : (x.f0 != 6) = true := by rw [bne_iff_ne]; exact fun e => hblk (.inr (.inr e))
      clear hblk
      gi_wp2_with (refine wpListIn_off rfl wide_fn (fun _ _ => ?_); go_simp)
      exact ⟨⟨i + 1, by omega, by go_num, by rw [hT1.out, hT2.out, ← List.append_assoc]; exact hjW2.out, hBW2.out, hKT.out⟩, by simp [intOf]; omega⟩
    have hT2 := Aside0.mk (show toksN x = (x.f0, x.f2, x.f3, x.f4) :: (toksL x.f6 ++ ((if x.f5 = true then tkElse :: toksL x.f7 else []) ++ [tkEnd])) by rw [hTN.out, if_pos hblk])
    have hk : ((x.f0 != 2) = false) ∨ ((x.f0 != 2) = true ∧ (x.f0 != 3) = false) ∨ ((x.f0 != 2) = true ∧ (x.f0 != 3) = true ∧ (x.f0 != 6) = false) := by
      rcases hblk with h | h | h <;> rw [h] <;> decide
    clear hblk
    have hn6 : (pre ++ toksL (a.take i) ++ [(x.f0, x.f2, x.f3, x.f4)]).length + (toksL x.f6).length ≤ N := by
      have := hlen.out; rw [hT2.out] at this; simp only [List.length_append, List.length_cons, List.length_nil] at this ⊢; omega
    replace hn6 := Aside0.mk hn6
    rcases hk with e2 | ⟨e2, e3⟩ | ⟨e2, e3, e6⟩
    all_goals
      gi_wp2_with (refine wpListIn_off rfl wide_fn (fun _ _ => ?_); go_simp)
      refine ⟨trivial, fun h => (by cases h), ?_⟩
      refine (HX6.out (n - 1) A6 c6 _ W2 (fun y hy => hPN.out y (by rw [hT2.out]; simp [hy])) g6.out.1 g6.out.2 hBW2.out hjW2.out hn6.out).mono ?_
      rintro e W3 (⟨rfl, hjW3, hBW3, hKW3⟩ | ⟨rfl, q, hx⟩)
      case inr =>
        gi_wp2_with (refine wpListIn_off rfl wide_fn (fun _ _ => ?_); go_simp)
        gi_wp2_with (refine wpListIn_off rfl wide_fn (fun _ _ => ?_); go_simp)
        go_ret
        exact .inr ⟨rfl, q, hx⟩
      have hbW3 := hKW3.2 _ _ _ hbW2.out
      have y0_W3 : W3.cell? ⟨wr.heap.size, 0, none⟩ = some (.int .i64 x.f0) := (blk_cell hbW3 0).trans rfl
      have y5_W3 : W3.cell? ⟨wr.heap.size, 5, none⟩ = some (.bool x.f5) := (blk_cell hbW3 5).trans rfl
      have y6_W3 : W3.cell? ⟨wr.heap.size, 6, none⟩ = some (.slice A6 x.f6.length c6) := (blk_cell hbW3 6).trans rfl
      have y7_W3 : W3.cell? ⟨wr.heap.size, 7, none⟩ = some (.slice A7 x.f7.length c7) := (blk_cell hbW3 7).trans rfl
      replace hKT := Aside0.mk (hKT.out.trans hKW3)
      replace hbW3 := Aside0.mk hbW3
      replace hjW3 := Aside0.mk hjW3
      replace hBW3 := Aside0.mk hBW3
      clear hKW3 hbW2 hjW2 hBW2 y0_W2 y5_W2 y6_W2 y7_W2
      cases hf5 : x.f5
      case false =>
        have hT3 := Aside0.mk (show toksN x = (x.f0, x.f2, x.f3, x.f4) :: (toksL x.f6 ++ [tkEnd]) by rw [hT2.out, hf5]; simp)
        rw [hf5] at y5_W3
        have hn : (pre ++ toksL (a.take i) ++ [(x.f0, x.f2, x.f3, x.f4)] ++ toksL x.f6).length < N := by
          have := hlen.out; rw [hT3.out] at this; simp only [List.length_append, List.length_cons, List.length_nil] at this ⊢; omega
        obtain ⟨fn, tmps, assign, body, hy, hR⟩ := HY.out (n - 1) _ tkEnd W3 (hPN.out _ (by rw [hT3.out]; simp)) hBW3.out hjW3.out hn
        dsimp only [tkV, tkEnd] at hy
        replace hR := Aside0.mk hR
        clear hn
        gi_wp2_with (refine wpListIn_off rfl wide_fn (fun _ _ => ?_); go_simp)
        refine ⟨fun h => (by cases h), ?_⟩
        refine hR.out.mono ?_
        rintro e W4 (⟨rfl, hjW4, hBW4, hKW4⟩ | ⟨rfl, hx⟩)
        case inr =>
          gi_wp2_with (refine wpListIn_off rfl wide_fn (fun _ _ => ?_); go_simp)
          go_ret
          exact .inr ⟨rfl, _, hx⟩
        replace hKT := Aside0.mk (hKT.out.trans hKW4)
        replace hjW4 := Aside0.mk hjW4
        replace hBW4 := Aside0.mk hBW4
        clear hKW4 hR hy fn tmps assign body
        gi_wp2_with (refine wpListIn_off rfl wide_fn (fun _ _ => ?_); go_simp)
        refine ⟨⟨i + 1, by omega, by go_num, ?_, hBW4.out, hKT.out⟩, by simp [intOf]; omega⟩
        have := hjW4.out
        rw [hT1.out, hT3.out]
        simpa [List.append_assoc] using this
      case true =>
        have hT3 := Aside0.mk (show toksN x = (x.f0, x.f2, x.f3, x.f4) :: (toksL x.f6 ++ (tkElse :: (toksL x.f7 ++ [tkEnd]))) by rw [hT2.out, hf5]; simp)
        rw [hf5] at y5_W3
        have hn : (pre ++ toksL (a.take i) ++ [(x.f0, x.f2, x.f3, x.f4)] ++ toksL x.f6).length < N := by
          have := hlen.out; rw [hT3.out] at this; simp only [List.length_append, List.length_cons, List.length_nil] at this ⊢; omega
        have hn7 : (pre ++ toksL (a.take i) ++ [(x.f0, x.f2, x.f3, x.f4)] ++ toksL x.f6 ++ [tkElse]).length + (toksL x.f7).length ≤ N := by
          have := hlen.out; rw [hT3.out] at this; simp only [List.length_append, List.length_cons, List.length_nil] at this ⊢; omega
        have hn8 : (pre ++ toksL (a.take i) ++ [(x.f0, x.f2, x.f3, x.f4)] ++ toksL x.f6 ++ [tkElse] ++ toksL x.f7).length < N := by
          have := hlen.out; rw [hT3.out] at this; simp only [List.length_append, List.length_cons, List.length_nil] at this ⊢; omega
        replace hn7 := Aside0.mk hn7
        replace hn8 := Aside0.mk hn8
        obtain ⟨fn, tmps, assign, body, hy, hR⟩ := HY.out (n - 1) _ tkElse W3 (hPN.out _ (by rw [hT3.out]; simp)) hBW3.out hjW3.out hn
        dsimp only [tkV, tkElse] at hy
        replace hR := Aside0.mk hR
        clear hn
        gi_wp2_with (refine wpListIn_off rfl wide_fn (fun _ _ => ?_); go_simp)
        refine ⟨fun h => (by cases h), ?_⟩
        refine hR.out.mono ?_
        rintro e W4 (⟨rfl, hjW4, hBW4, hKW4⟩ | ⟨rfl, hx⟩)
        case inr =>
          gi_wp2_with (refine wpListIn_off rfl wide_fn (fun _ _ => ?_); go_simp)
          go_ret
          exact .inr ⟨rfl, _, hx⟩
        clear hR hy fn tmps assign body
        have hbW4 := hKW4.2 _ _ _ hbW3.out
        have y0_W4 : W4.cell? ⟨wr.heap.size, 0, none⟩ = some (.int .i64 x.f0) := (blk_cell hbW4 0).trans rfl
        have y5_W4 : W4.cell? ⟨wr.heap.size, 5, none⟩ = some (.bool x.f5) := (blk_cell hbW4 5).trans rfl
        have y6_W4 : W4.cell? ⟨wr.heap.size, 6, none⟩ = some (.slice A6 x.f6.length c6) := (blk_cell hbW4 6).trans rfl
        have y7_W4 : W4.cell? ⟨wr.heap.size, 7, none⟩ = some (.slice A7 x.f7.length c7) := (blk_cell hbW4 7).trans rfl
        replace hKT := Aside0.mk (hKT.out.trans hKW4)
        replace hbW4 := Aside0.mk hbW4
        replace hjW4 := Aside0.mk hjW4
        replace hBW4 := Aside0.mk hBW4
        clear hKW4 hbW3 hjW3 hBW3 y0_W3 y5_W3 y6_W3 y7_W3
        gi_wp2_with (refine wpListIn_off rfl wide_fn (fun _ _ => ?_); go_simp)
        refine ⟨trivial, fun h => (by cases h), ?_⟩
        refine (HX7.out (n - 1) A7 c7 _ W4 (fun y hy => hPN.out y (by rw [hT3.out]; simp [hy])) g7.out.1 g7.out.2 hBW4.out hjW4.out hn7.out).mono ?_
        rintro e W5 (⟨rfl, hjW5, hBW5, hKW5⟩ | ⟨rfl, q, hx⟩)
        case inr =>
          gi_wp2_with (refine wpListIn_off rfl wide_fn (fun _ _ => ?_); go_simp)
          go_ret
          exact .inr ⟨rfl, q, hx⟩
        replace hKT := Aside0.mk (hKT.out.trans hKW5)
        obtain ⟨fn, tmps, assign, body, hy, hR⟩ := HY.out (n - 1) _ tkEnd W5 (hPN.out _ (by rw [hT3.out]; simp)) hBW5 hjW5 hn8.out
        dsimp only [tkV, tkEnd] at hy
        replace hR := Aside0.mk hR
        replace hjW5 := Aside0.mk hjW5
        replace hBW5 := Aside0.mk hBW5
        gi_wp2_with (refine wpListIn_off rfl wide_fn (fun _ _ => ?_); go_simp)
        refine ⟨fun h => (by cases h), ?_⟩
        refine hR.out.mono ?_
        rintro e W6 (⟨rfl, hjW6, hBW6, hKW6⟩ | ⟨rfl, hx⟩)
        case inr =>
          gi_wp2_with (refine wpListIn_off rfl wide_fn (fun _ _ => ?_); go_simp)
          go_ret
          exact .inr ⟨rfl, _, hx⟩
        replace hKT := Aside0.mk (hKT.out.trans hKW6)
        replace hjW6 := Aside0.mk hjW6
        replace hBW6 := Aside0.mk hBW6
        clear hKW5 hKW6 hR hy fn tmps assign body
        gi_wp2_with (refine wpListIn_off rfl wide_fn (fun _ _ => ?_); go_simp)
        refine ⟨⟨i + 1, by omega, by go_num, ?_, hBW6.out, hKT.out⟩, by simp [intOf]; omega⟩
        have := hjW6.out
        rw [hT1.out, hT3.out]
        simpa [List.append_assoc] using this
end Go.Proofs.YtgdpojleejdfaaaDoor.Px
