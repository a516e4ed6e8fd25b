import Derived.Test.YtgdpojleejdfaaaDoorRTMu
/- Contract of printer.Equal, slices.EqualFunc at its closure, and the closure. -/
namespace Go.Proofs.YtgdpojleejdfaaaDoor.Px
open Go.RowKit Go.Proofs.YtgdpojleejdfaaaDoorW.PrintWords Go.Proofs.YtgdpojleejdfaaaDoorW.PrintLast Go.Proofs.YtgdpojleejdfaaaDoorW.PrintMore
set_option linter.unusedVariables false
set_option linter.unusedSimpArgs false
mutual
def eqList : List S39 → List S39 → Bool
  | [], [] => true
  | x :: xs, y :: ys => eqNode x y && eqList xs ys
  | _, _ => false
def eqNode : S39 → S39 → Bool
  | ⟨k, _, s, p, h, e, b, l⟩, y => k == y.f0 && decide (s.toList = y.f2.toList) && decide (p.toList = y.f3.toList) && h == y.f4 && e == y.f5 && eqList b y.f6 && eqList l y.f7
end
theorem eqNode_eq (x y : S39) : eqNode x y = (x.f0 == y.f0 && decide (x.f2.toList = y.f2.toList) && decide (x.f3.toList = y.f3.toList) && x.f4 == y.f4 && x.f5 == y.f5 && eqList x.f6 y.f6 && eqList x.f7 y.f7) := by cases x; simp [eqNode]
theorem S39.size6 (x : S39) : SizeOf.sizeOf x.f6 < SizeOf.sizeOf x := by cases x; simp; omega
theorem S39.size7 (x : S39) : SizeOf.sizeOf x.f7 < SizeOf.sizeOf x := by cases x; simp; omega
abbrev equal.Con (a : List S39) : Prop := ∀ (b : List S39) (A B : Option Addr) (c d : Nat) (w : World) (ha : Kd.C k39 w A a.length a) (hb : Kd.C k39 w B b.length b) (hc : a.length ≤ c) (hd : b.length ≤ d),
  Calls Tryd.prog 35 #[.slice A a.length c, .slice B b.length d] w fun e w' => e = .returned (.bool (eqList a b)) ∧ Below w.heap.size w w'
set_option maxHeartbeats 1000000 in
set_option maxRecDepth 100000 in
theorem equal_closure (x y : S39) (h6 : equal.Con x.f6) (h7 : equal.Con x.f7) (A6 A7 B6 B7 : Option Addr) (c6 c7 d6 d7 : Nat) (w : World)
    (ga : Kd.C k39 w A6 x.f6.length x.f6) (gb : Kd.C k39 w A7 x.f7.length x.f7) (la : x.f6.length ≤ c6) (lb : x.f7.length ≤ c7)
    (gc : Kd.C k39 w B6 y.f6.length y.f6) (gd : Kd.C k39 w B7 y.f7.length y.f7) (lc : y.f6.length ≤ d6) (ld : y.f7.length ≤ d7) :
    Calls Tryd.prog 58 #[.agg #[.int .i64 x.f0, .int .i64 x.f1, .string x.f2, .string x.f3, .bool x.f4, .bool x.f5, .slice A6 x.f6.length c6, .slice A7 x.f7.length c7], .agg #[.int .i64 y.f0, .int .i64 y.f1, .string y.f2, .string y.f3, .bool y.f4, .bool y.f5, .slice B6 y.f6.length d6, .slice B7 y.f7.length d7]] w fun e w' => e = .returned (.bool (eqNode x y)) ∧ Below w.heap.size w w' := by
  have hE := Aside0.mk (eqNode_eq x y)
  have H6 := Aside0.mk (h6 y.f6 A6 B6 c6 d6)
  have H7 := Aside0.mk (h7 y.f7 A7 B7 c7 d7)
  clear h6 h7
  replace ga := Aside0.mk ga
  replace gb := Aside0.mk gb
  replace gc := Aside0.mk gc
  replace gd := Aside0.mk gd
  replace la := Aside0.mk la
  replace lb := Aside0.mk lb
  replace lc := Aside0.mk lc
  replace ld := Aside0.mk ld
  by_cases e0 : (x.f0 == y.f0) = true
  case neg =>
    replace e0 : (x.f0 == y.f0) = false := by simpa using e0
    have HE := Aside0.mk (show eqNode x y = false by rw [hE.out]; simp only [e0, Bool.and_false, Bool.false_and, Bool.and_true, Bool.true_and])
    clear hE
    go_enter Tryd.func58, Tryd.ntmps58
    go_wp2
    go_ret
    exact ⟨by rw [HE.out]; rfl, (Below.refl _ _).alloc (Nat.le_refl _) _ |>.alloc (by simp) _⟩
  by_cases e1 : decide (x.f2.toList = y.f2.toList) = true
  case neg =>
    replace e1 : decide (x.f2.toList = y.f2.toList) = false := by simpa using e1
    have HE := Aside0.mk (show eqNode x y = false by rw [hE.out]; simp only [e0, e1, Bool.and_false, Bool.false_and, Bool.and_true, Bool.true_and])
    clear hE
    have g1 : (x.f2.toList = y.f2.toList) = False := eq_false (of_decide_eq_false e1)
    go_enter Tryd.func58, Tryd.ntmps58
    go_wp2
    go_ret
    exact ⟨by rw [HE.out]; rfl, (Below.refl _ _).alloc (Nat.le_refl _) _ |>.alloc (by simp) _⟩
  have g1 : (x.f2.toList = y.f2.toList) = True := eq_true (of_decide_eq_true e1)
  by_cases e2 : decide (x.f3.toList = y.f3.toList) = true
  case neg =>
    replace e2 : decide (x.f3.toList = y.f3.toList) = false := by simpa using e2
    have HE := Aside0.mk (show eqNode x y = false by rw [hE.out]; simp only [e0, e1, e2, Bool.and_false, Bool.false_and, Bool.and_true, Bool.true_and])
    clear hE
    have g2 : (x.f3.toList = y.f3.toList) = False := eq_false (of_decide_eq_false e2)
    go_enter Tryd.func58, Tryd.ntmps58
    go_wp2
    go_ret
    exact ⟨by rw [HE.out]; rfl, (Below.refl _ _).alloc (Nat.le_refl _) _ |>.alloc (by simp) _⟩
  have g2 : (x.f3.toList = y.f3.toList) = True := eq_true (of_decide_eq_true e2)
  by_cases e3 : (x.f4 == y.f4) = true
  case neg =>
    replace e3 : (x.f4 == y.f4) = false := by simpa using e3
    have HE := Aside0.mk (show eqNode x y = false by rw [hE.out]; simp only [e0, e1, e2, e3, Bool.and_false, Bool.false_and, Bool.and_true, Bool.true_and])
    clear hE
    go_enter Tryd.func58, Tryd.ntmps58
    go_wp2
    go_ret
    exact ⟨by rw [HE.out]; rfl, (Below.refl _ _).alloc (Nat.le_refl _) _ |>.alloc (by simp) _⟩
  by_cases e4 : (x.f5 == y.f5) = true
  case neg =>
    replace e4 : (x.f5 == y.f5) = false := by simpa using e4
    have HE := Aside0.mk (show eqNode x y = false by rw [hE.out]; simp only [e0, e1, e2, e3, e4, Bool.and_false, Bool.false_and, Bool.and_true, Bool.true_and])
    clear hE
    go_enter Tryd.func58, Tryd.ntmps58
    go_wp2
    go_ret
    exact ⟨by rw [HE.out]; rfl, (Below.refl _ _).alloc (Nat.le_refl _) _ |>.alloc (by simp) _⟩
  have hE2 : eqNode x y = (eqList x.f6 y.f6 && eqList x.f7 y.f7) := by rw [hE.out, e0, e1, e2, e3, e4]; rfl
  replace hE2 := Aside0.mk hE2
  clear hE
  go_enter Tryd.func58, Tryd.ntmps58
  go_wp2_with fail
  have HB := Aside0.mk ((Below.refl _ w).alloc (Nat.le_refl _) (.cells #[.int .i64 x.f0, .int .i64 x.f1, .string x.f2, .string x.f3, .bool x.f4, .bool x.f5, .slice A6 x.f6.length c6, .slice A7 x.f7.length c7] 39) |>.alloc (by simp) (.cells #[.int .i64 y.f0, .int .i64 y.f1, .string y.f2, .string y.f3, .bool y.f4, .bool y.f5, .slice B6 y.f6.length d6, .slice B7 y.f7.length d7] 39))
  refine (H6.out _ (Kd.C_below ga.out HB.out) (Kd.C_below gc.out HB.out) la.out lc.out).mono ?_
  rintro e w1 ⟨rfl, HB1⟩
  have k1 : w1.cell? ⟨w.heap.size, 7, none⟩ = some (.slice A7 x.f7.length c7) := (blk_cell (blk_below (blk_alloc (blk_new _ _) _) HB1) 7).trans rfl
  have k2 : w1.cell? ⟨w.heap.size + 1, 7, none⟩ = some (.slice B7 y.f7.length d7) := (blk_cell (blk_below (blk_new' (by simp)) HB1) 7).trans rfl
  replace HB := Aside0.mk (below_step HB.out HB1)
  clear HB1
  cases hb : eqList x.f6 y.f6 with
  | false =>
    have HE := Aside0.mk (show eqNode x y = false by rw [hE2.out, hb]; rfl)
    clear hE2 hb
    go_wp2
    go_ret
    exact ⟨by rw [HE.out]; rfl, HB.out⟩
  | true =>
    have HE := Aside0.mk (show eqNode x y = eqList x.f7 y.f7 by rw [hE2.out, hb]; rfl)
    clear hE2 hb
    have hc1 := Aside0.mk (Kd.C_below gb.out HB.out)
    have hc2 := Aside0.mk (Kd.C_below gd.out HB.out)
    go_wp2_with fail
    refine (H7.out _ hc1.out hc2.out lb.out ld.out).mono ?_
    rintro e w2 ⟨rfl, HB2⟩
    replace HB := Aside0.mk (below_step HB.out HB2)
    clear HB2
    go_wp2
    go_ret
    exact ⟨by rw [HE.out]; simp [of_decide_eq_true e1, of_decide_eq_true e2], HB.out⟩
def EqfRel (a b : List S39) (w : World) (v17 : Value) (wr : World) : Prop := ∃ i : Nat, i ≤ a.length ∧ v17 = .int .i64 i ∧ eqList a b = eqList (a.drop i) (b.drop i) ∧ Below w.heap.size w wr
theorem eqList_cons (x y : S39) (a b : List S39) : eqList (x :: a) (y :: b) = (eqNode x y && eqList a b) := by simp [eqList]
theorem eqList_len : ∀ (a b : List S39), eqList a b = true → a.length = b.length
  | [], [], _ => rfl
  | x :: xs, y :: ys, h => by
    rw [eqList_cons, Bool.and_eq_true] at h
    simp [eqList_len xs ys h.2]
  | [], _ :: _, h => by simp [eqList] at h
  | _ :: _, [], h => by simp [eqList] at h
theorem rd_T39_at (a : List S39) (i : Nat) (h : i < a.length) : rd_T39 a (i : Int) = a[i] := by simp [rd_T39, List.getD_eq_getElem?_getD, h]
set_option maxHeartbeats 1000000 in
set_option maxRecDepth 100000 in
theorem equalFunc (a b : List S39) (hx : ∀ x ∈ a, equal.Con x.f6 ∧ equal.Con x.f7) (A B : Option Addr) (c d : Nat) (w : World) (ha : Kd.C k39 w A a.length a) (hb : Kd.C k39 w B b.length b) (hc : a.length ≤ c) (hd : b.length ≤ d) :
    Calls Tryd.prog 57 #[.slice A a.length c, .slice B b.length d, .func (.func 58) #[] #[]] w fun e w' => e = .returned (.bool (eqList a b)) ∧ Below w.heap.size w w' := by
  have hm := Kd.C_max ha
  by_cases hl : a.length = b.length
  case neg =>
    have hE := Aside0.mk (show eqList a b = false by rw [← Bool.not_eq_true]; exact fun h => hl (eqList_len a b h))
    have hl' : ((a.length : Int) != (b.length : Int)) = true := by rw [bne_iff_ne]; omega
    clear hl
    go_enter Tryd.func57, Tryd.ntmps57
    go_wp2
    go_ret
    exact ⟨by rw [hE.out]; rfl, Below.refl _ _⟩
  have hl' : ((a.length : Int) != (b.length : Int)) = false := by rw [bne_eq_false_iff_eq]; omega
  have hL := Aside0.mk hl; clear hl
  have HX := Aside0.mk hx; clear hx
  replace ha := Aside0.mk ha
  replace hb := Aside0.mk hb
  go_enter Tryd.func57, Tryd.ntmps57
  go_wp2
  go_loopw [17] (fun v wr => EqfRel a b w v wr) (fun v _ => a.length - (intOf v).toNat)
  case atStart => exact ⟨0, Nat.zero_le _, rfl, rfl, Below.refl _ _⟩
  case round =>
    obtain ⟨i, hi, rfl, hE, HB⟩ := hrel
    replace hE := Aside0.mk hE
    replace HB := Aside0.mk HB
    by_cases hlt : i < a.length
    case neg =>
      obtain rfl : i = a.length := by omega
      have hE2 := Aside0.mk (show eqList a b = true by rw [hE.out, List.drop_length, List.drop_eq_nil_of_le (by have := hL.out; omega)]; simp [eqList])
      clear hE
      go_wp2
      go_ret
      exact ⟨by rw [hE2.out]; rfl, HB.out⟩
    have hlt2 : i < b.length := by have := hL.out; omega
    obtain ⟨ad, A6, c6, A7, c7, rfl, x0, x1, x2, x3, x4, x5, x6, x7, l6, g6, l7, g7⟩ := at_T39 (Kd.C_below ha.out HB.out) (i : Int) (by omega) (by omega)
    obtain ⟨bd, B6, d6, B7, d7, rfl, y0, y1, y2, y3, y4, y5, y6, y7, m6, n6, m7, n7⟩ := at_T39 (Kd.C_below hb.out HB.out) (i : Int) (by omega) (by omega)
    rw [rd_T39_at a i hlt] at x0 x1 x2 x3 x4 x5 x6 x7 l6 g6 l7 g7
    rw [rd_T39_at b i hlt2] at y0 y1 y2 y3 y4 y5 y6 y7 m6 n6 m7 n7
    have hEx := Aside0.mk (show eqList a b = (eqNode a[i] b[i] && eqList (a.drop (i + 1)) (b.drop (i + 1))) by rw [hE.out, List.drop_eq_getElem_cons hlt, List.drop_eq_getElem_cons hlt2, eqList_cons])
    have hxx := Aside0.mk (HX.out a[i] (List.getElem_mem hlt))
    clear hE
    generalize a[i] = x at *
    generalize b[i] = y at *
    rw [Int.toNat_natCast] at x0 x1 x2 x3 x4 x5 x6 x7 y0 y1 y2 y3 y4 y5 y6 y7
    have bx := World.block_lt_of_cell? _ _ x1
    have by_ := World.block_lt_of_cell? _ _ y1
    replace g6 := Aside0.mk (And.intro g6 (And.intro g7 (And.intro l6 l7)))
    replace n6 := Aside0.mk (And.intro n6 (And.intro n7 (And.intro m6 m7)))
    clear g7 l6 l7 n7 m6 m7
    go_wp2_with fail
    have HB1 := Aside0.mk ((Below.refl wr.heap.size wr).alloc (Nat.le_refl _) (.cells #[.int .i64 x.f0, .int .i64 x.f1, .string x.f2, .string x.f3, .bool x.f4, .bool x.f5, .slice A6 x.f6.length c6, .slice A7 x.f7.length c7] 39) |>.alloc (by simp) (.cells #[.int .i64 y.f0, .int .i64 y.f1, .string y.f2, .string y.f3, .bool y.f4, .bool y.f5, .slice B6 y.f6.length d6, .slice B7 y.f7.length d7] 39))
    refine (equal_closure x y hxx.out.1 hxx.out.2 A6 A7 B6 B7 c6 c7 d6 d7 _ (Kd.C_below g6.out.1 HB1.out) (Kd.C_below g6.out.2.1 HB1.out) g6.out.2.2.1 g6.out.2.2.2 (Kd.C_below n6.out.1 HB1.out) (Kd.C_below n6.out.2.1 HB1.out) n6.out.2.2.1 n6.out.2.2.2).mono ?_
    rintro e w2 ⟨rfl, HB2⟩
    replace HB := Aside0.mk (below_step (below_step HB.out HB1.out) HB2)
    clear HB1 HB2 g6 n6 x0 x1 x2 x3 x4 x5 x6 x7 y0 y1 y2 y3 y4 y5 y6 y7 bx by_ hxx
    cases hb0 : eqNode x y with
    | false =>
      have hE2 := Aside0.mk (show eqList a b = false by rw [hEx.out, hb0]; rfl)
      clear hEx hb0
      go_wp2
      go_ret
      exact ⟨by rw [hE2.out]; rfl, HB.out⟩
    | true =>
      have hE2 := Aside0.mk (show eqList a b = eqList (a.drop (i + 1)) (b.drop (i + 1)) by rw [hEx.out, hb0]; rfl)
      clear hEx hb0
      go_wp2
      go_roundw
      case rel => exact ⟨i + 1, by omega, by go_num, hE2.out, HB.out⟩
      case measure => simp [intOf]; omega
set_option maxHeartbeats 1000000 in
theorem equal.all : ∀ (n : Nat) (a : List S39), SizeOf.sizeOf a < n → equal.Con a := by
  intro n
  induction n with
  | zero => intro a h; omega
  | succ n ih =>
    intro a hn b A B c d w ha hb hc hd
    have hx : ∀ x ∈ a, equal.Con x.f6 ∧ equal.Con x.f7 := fun x hx => by
      have h1 := List.sizeOf_lt_of_mem hx
      exact ⟨ih _ (by have := S39.size6 x; omega), ih _ (by have := S39.size7 x; omega)⟩
    have H := Aside0.mk (equalFunc a b hx A B c d w ha hb hc hd)
    clear hx ih ha hb
    go_enter Tryd.func35, Tryd.ntmps35
    go_wp2_with fail
    refine H.out.mono ?_
    rintro e w' ⟨rfl, HB⟩
    replace HB := Aside0.mk HB
    go_wp2
    go_ret
    exact ⟨rfl, HB.out⟩
def printer_Equal.f (a b : List S39) : Option Bool := some (eqList a b)
theorem printer_Equal.calls (A0 : Option Addr) (c0 : Nat) (l0 : List S39) (A1 : Option Addr) (c1 : Nat) (l1 : List S39) (r : Bool) (w : World) (hr0 : Kd.C k39 w A0 l0.length l0) (hc0 : l0.length ≤ c0) (hr1 : Kd.C k39 w A1 l1.length l1) (hc1 : l1.length ≤ c1) (h : printer_Equal.f l0 l1 = some r) :
    Calls Tryd.prog 35 #[.slice A0 l0.length c0, .slice A1 l1.length c1] w fun e w' => e = .returned (.bool r) ∧ Below w.heap.size w w' := by
  obtain rfl := Option.some.inj h
  exact equal.all _ l0 (Nat.lt_succ_self _) l1 A0 A1 c0 c1 w hr0 hr1 hc0 hc1
end Go.Proofs.YtgdpojleejdfaaaDoor.Px
