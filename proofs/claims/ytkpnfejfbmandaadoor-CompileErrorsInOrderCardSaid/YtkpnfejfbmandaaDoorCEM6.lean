import Derived.Test.YtkpnfejfbmandaaDoorCEM5
import Derived.Laws.EntriesVeiled
import Derived.Outline
import Derived.StillTailTactics
import Derived.Test.YtkpnfejfbmandaaDoorCEM1
import Derived.Great.Walk
/- defines.Check: the closure, calls. -/
namespace Go.Proofs.YtkpnfejfbmandaaDoor.Px
open Go.RowKit Go.Proofs.YtkpnfejfbmandaaDoorW.PrintWords Go.Proofs.YtkpnfejfbmandaaDoorW.PrintLast Go.Proofs.YtkpnfejfbmandaaDoorW.PrintMore
set_option linter.unusedVariables false
set_option linter.unusedSimpArgs false
structure CIn (w0 : World) (bm bc bt be : Nat) (ns : List ByteArray) (n : Nat) (D : DataW Unit) (a e : Int) (W : World) : Prop where
  mp : MpB W bm ns n D
  c : W.heap[bc]? = some (.cells #[.map (some bm)] 82 (0, 0))
  t : W.heap[bt]? = some (.cells #[.int .i64 a] 3 (0, 0))
  e : W.heap[be]? = some (.cells #[.int .i64 e] 24 (0, 0))
  bel : Below w0.heap.size w0 W
  ge : w0.heap.size ≤ bm ∧ w0.heap.size ≤ bc ∧ w0.heap.size ≤ bt ∧ w0.heap.size ≤ be
def Kp2 (w W : World) (bt be : Nat) : Prop := w.heap.size ≤ W.heap.size ∧ ∀ k, k < w.heap.size → k ≠ bt → k ≠ be → W.heap[k]? = w.heap[k]?
theorem Kp2.refl (w : World) (bt be : Nat) : Kp2 w w bt be := ⟨Nat.le_refl _, fun _ _ _ _ => rfl⟩
theorem Kp2.trans {w W W2 : World} {bt be : Nat} (h : Kp2 w W bt be) (k : Kp2 W W2 bt be) : Kp2 w W2 bt be := ⟨Nat.le_trans h.1 k.1, fun i hi a b => (k.2 i (Nat.lt_of_lt_of_le hi h.1) a b).trans (h.2 i hi a b)⟩
theorem Kp2.alloc (w : World) (bt be : Nat) (o : Obj) : Kp2 w (w.alloc o) bt be := ⟨by rw [World.size_alloc]; omega, fun i hi _ _ => Below.heap_alloc w o i hi⟩
theorem CIn.ne {w0 bm bc bt be ns n D a e W} (h : CIn w0 bm bc bt be ns n D a e W) : bm ≠ bt ∧ bm ≠ be ∧ bc ≠ bt ∧ bc ≠ be ∧ bt ≠ be := by
  obtain ⟨es, clock, hm, _⟩ := h.mp.own
  have ht := h.t
  have he := h.e
  have hc := h.c
  refine ⟨fun q => ?_, fun q => ?_, fun q => ?_, fun q => ?_, fun q => ?_⟩
  · rw [q, ht] at hm; simp at hm
  · rw [q, he] at hm; simp at hm
  · rw [q, ht] at hc; simp at hc
  · rw [q, he] at hc; simp at hc
  · rw [q, he] at ht; simp at ht
theorem CIn.alloc {w0 bm bc bt be ns n D a e W} (h : CIn w0 bm bc bt be ns n D a e W) (o : Obj) : CIn w0 bm bc bt be ns n D a e (W.alloc o) :=
  ⟨h.mp.move (Below.heap_alloc W o bm h.mp.own.lt), blk_alloc h.c o, blk_alloc h.t o, blk_alloc h.e o, h.bel.alloc h.bel.size o, h.ge⟩
theorem CIn.err {w0 bm bc bt be ns n D a e W} (h : CIn w0 bm bc bt be ns n D a e W) (a' e' : Int) : CIn w0 bm bc bt be ns n D a' e' ((W.setCell ⟨bt, 0, none⟩ (.int .i64 a')).setCell ⟨be, 0, none⟩ (.int .i64 e')) := by
  obtain ⟨n1, n2, n3, n4, n5⟩ := h.ne
  exact ⟨h.mp.move ((Below.heap_setCell _ _ _ _ n2).trans (Below.heap_setCell _ _ _ _ n1)), blk_far (blk_far h.c n3 _) n4 _, blk_far (blk_set h.t 0 _) n5 _, blk_set (blk_far h.e n5.symm _) 0 _, (h.bel.setCell h.ge.2.2.1 _).setCell h.ge.2.2.2 _, h.ge⟩
theorem Kp2.err (W : World) (bt be : Nat) (u v : Value) : Kp2 W ((W.setCell ⟨bt, 0, none⟩ u).setCell ⟨be, 0, none⟩ v) bt be :=
  ⟨by rw [World.size_setCell, World.size_setCell]; exact Nat.le_refl _, fun k _ h1 h2 => (Below.heap_setCell _ _ _ _ h2).trans (Below.heap_setCell _ _ _ _ h1)⟩
set_option maxHeartbeats 4000000 in
set_option maxRecDepth 100000 in
theorem closure_any {w0 bm bc bt be ns n D a} (kd at_ : Int) (S P : ByteArray) (p1 p2 : Bool) (v6 v7 : Value) (w : World) (hS : CIn w0 bm bc bt be ns n D a 0 w) (hs : S.size ≤ 65536) :
    Calls Tryd.prog 37 #[.agg #[.int .i64 kd, .int .i64 at_, .string S, .string P, .bool p1, .bool p2, v6, v7], .pointer (some ⟨bc, 0, none⟩), .pointer (some ⟨bt, 0, none⟩), .pointer (some ⟨be, 0, none⟩)] w fun e w' =>
      e = .returned (.bool (inN ns S)) ∧ CIn w0 bm bc bt be ns n D (if inN ns S then a else at_) (if inN ns S then 0 else 11) w' ∧ Kp2 w w' bt be := by
  have hcm : w.cell? ⟨bc, 0, none⟩ = some (.map (some bm)) := blk_cell hS.c 0
  have hct : w.cell? ⟨bt, 0, none⟩ = some (.int .i64 a) := blk_cell hS.t 0
  have hce : w.cell? ⟨be, 0, none⟩ = some (.int .i64 0) := blk_cell hS.e 0
  have hft := blk_frozen hS.t 0
  have hfe := blk_frozen hS.e 0
  have l1 := blk_lt hS.c
  have l2 := blk_lt hS.t
  have l3 := blk_lt hS.e
  obtain ⟨n1, n2, n3, n4, n5⟩ := hS.ne
  have hlook := fun o => (hS.alloc o).mp.look S hs
  replace hS := Aside0.mk hS
  cases hin : inN ns S
  all_goals
    rw [hin] at hlook
    go_enter Tryd.func37, Tryd.ntmps37
    go_wp2
    go_ret
  · exact ⟨rfl, (hS.out.err _ _).alloc _, (Kp2.err _ _ _ _ _).trans (Kp2.alloc _ _ _ _)⟩
  · exact ⟨rfl, hS.out.alloc _, Kp2.alloc _ _ _ _⟩
def callsR (l : List S78) (ns : List ByteArray) (a : Int) : Bool × Int × Int := match cS l ns with
  | some a' => (false, a', 11)
  | none => (true, a, 0)
abbrev calls.Con (l : List S78) : Prop := ∀ (w0 : World) (bm bc bt be : Nat) (ns : List ByteArray) (n : Nat) (D : DataW Unit) (a : Int) (A : Option Addr) (c : Nat) (w : World), CIn w0 bm bc bt be ns n D a 0 w → Kd.C k78 w0 A l.length l → l.length ≤ c → smL l → nL l ≤ 1000000 →
  Calls Tryd.prog 36 #[.slice A l.length c, .func (.func 37) #[] #[.pointer (some ⟨bc, 0, none⟩), .pointer (some ⟨bt, 0, none⟩), .pointer (some ⟨be, 0, none⟩)]] w fun e w' =>
    e = .returned (.bool (callsR l ns a).1) ∧ CIn w0 bm bc bt be ns n D (callsR l ns a).2.1 (callsR l ns a).2.2 w' ∧ Kp2 w w' bt be
theorem cN_at (x : S78) (ns : List ByteArray) : cN x ns = if (x.f0 == 4 && !inN ns x.f2) = true then some x.f1 else match cS x.f6 ns with
    | some a => some a
    | none => cS x.f7 ns := by cases x; rw [cN]; rfl
set_option maxHeartbeats 4000000 in
set_option maxRecDepth 100000 in
theorem calls.step (l : List S78) (ih : ∀ x ∈ l, calls.Con x.f6 ∧ calls.Con x.f7) : calls.Con l := by
  intro w0 bm bc bt be ns n D a A c w hS hC hc hsm hlen
  obtain ⟨q, hq⟩ : ∃ q, q = callsR l ns a := ⟨_, rfl⟩
  rw [← hq]
  have hll : l.length ≤ 1000000 := by have := nL_len l; omega
  replace ih := Aside0.mk ih
  replace hC := Aside0.mk hC
  replace hS := Aside0.mk hS
  replace hq := Aside0.mk hq
  replace hsm := Aside0.mk hsm
  go_enter Tryd.func36, Tryd.ntmps36
  go_wp2
  go_loopg [9] l.length (fun kq v9 wr => ∃ i : Nat, kq + i = l.length ∧ v9 = .int .i64 i ∧ q = callsR (l.drop i) ns a ∧ nL (l.drop i) ≤ 1000000 ∧ CIn w0 bm bc bt be ns n D a 0 wr ∧ Kp2 w wr bt be)
  case atStart => exact ⟨0, rfl, rfl, hq.out, hlen, hS.out, Kp2.refl _ _ _⟩
  case round =>
    clear hS hq hlen
    obtain ⟨i, hki, rfl, hq, hlen, hS, hK⟩ := hrel
    by_cases hlt2 : i < l.length
    · have hl : decide ((i : Int) < (l.length : Int)) = true := decide_eq_true (by omega)
      have hd : l.drop i = l[i] :: l.drop (i + 1) := List.drop_eq_getElem_cons hlt2
      obtain ⟨ad, A6, c6, A7, c7, hA, x0, x1, x2, x3, x4, x5, x6, x7, l6, g6, l7, g7⟩ := at_T78 hC.out (i : Int) (by omega) (by omega)
      have hrd : rd_T78 l (i : Int) = l[i] := by unfold rd_T78; simp [List.getD, hlt2]
      simp only [Int.toNat_natCast] at x0 x1 x2 x3 x4 x5 x6 x7
      rw [hrd] at x0 x1 x2 x3 x4 x5 x6 x7 l6 g6 l7 g7
      have hin := List.getElem_mem hlt2
      have hsd := sm_drop l i hsm.out
      rw [hd] at hq hlen hsd
      rw [nL_cons, nN_eq] at hlen
      generalize l[i] = x at *
      subst hA
      have up : ∀ {a : Addr} {u : Value}, w0.cell? a = some u → wr.cell? a = some u := fun h => (hS.bel.cell (World.block_lt_of_cell? _ _ h)).trans h
      have hab := World.block_lt_of_cell? _ _ (up x0)
      replace x0 := up x0
      replace x1 := up x1
      replace x2 := up x2
      replace x3 := up x3
      replace x4 := up x4
      replace x5 := up x5
      replace x6 := up x6
      replace x7 := up x7
      clear up hrd
      have hsx : x.f2.size ≤ 65536 ∧ smL x.f6 ∧ smL x.f7 := by have := hsd.1; cases x; simpa only [smN] using this
      have hnt : wr.heap.size ≠ bt := by have := blk_lt hS.t; omega
      have hne : wr.heap.size ≠ be := by have := blk_lt hS.e; omega
      have hc6 := Aside0.mk (fun a W h => (ih.out x hin).1 w0 bm bc bt be ns n D a A6 c6 W h g6 l6 hsx.2.1 (by omega))
      have hc7 := Aside0.mk (fun a W h => (ih.out x hin).2 w0 bm bc bt be ns n D a A7 c7 W h g7 l7 hsx.2.2 (by omega))
      have hcl := Aside0.mk (fun W h => closure_any (w0 := w0) (bm := bm) (bc := bc) (bt := bt) (be := be) (ns := ns) (n := n) (D := D) (a := a) x.f0 x.f1 x.f2 x.f3 x.f4 x.f5 (.slice A6 x.f6.length c6) (.slice A7 x.f7.length c7) W h hsx.1)
      unfold callsR at hq hc6 hc7
      rw [cS, cN_at] at hq
      have hb0 := Aside0.mk (blk_new wr (.cells #[.int .i64 x.f0, .int .i64 x.f1, .string x.f2, .string x.f3, .bool x.f4, .bool x.f5, .slice A6 x.f6.length c6, .slice A7 x.f7.length c7] 78))
      have hS0 := Aside0.mk (hS.alloc (.cells #[.int .i64 x.f0, .int .i64 x.f1, .string x.f2, .string x.f3, .bool x.f4, .bool x.f5, .slice A6 x.f6.length c6, .slice A7 x.f7.length c7] 78))
      have hK0 := Aside0.mk (hK.trans (Kp2.alloc wr bt be (.cells #[.int .i64 x.f0, .int .i64 x.f1, .string x.f2, .string x.f3, .bool x.f4, .bool x.f5, .slice A6 x.f6.length c6, .slice A7 x.f7.length c7] 78)))
      have hlb : wr.heap.size < (wr.alloc (.cells #[.int .i64 x.f0, .int .i64 x.f1, .string x.f2, .string x.f3, .bool x.f4, .bool x.f5, .slice A6 x.f6.length c6, .slice A7 x.f7.length c7] 78)).heap.size := by rw [World.size_alloc]; omega
      replace hlen := Aside0.mk hlen
      clear hS hK ih hC hsd hd g6 g7 l6 l7
      replace hq := Aside0.mk hq
      have n0 : (wr.alloc (.cells #[.int .i64 x.f0, .int .i64 x.f1, .string x.f2, .string x.f3, .bool x.f4, .bool x.f5, .slice A6 x.f6.length c6, .slice A7 x.f7.length c7] 78)).cell? ⟨wr.heap.size, 0, none⟩ = some (.int .i64 x.f0) := blk_cell hb0.out 0
      have n1 : (wr.alloc (.cells #[.int .i64 x.f0, .int .i64 x.f1, .string x.f2, .string x.f3, .bool x.f4, .bool x.f5, .slice A6 x.f6.length c6, .slice A7 x.f7.length c7] 78)).cell? ⟨wr.heap.size, 1, none⟩ = some (.int .i64 x.f1) := blk_cell hb0.out 1
      have n2 : (wr.alloc (.cells #[.int .i64 x.f0, .int .i64 x.f1, .string x.f2, .string x.f3, .bool x.f4, .bool x.f5, .slice A6 x.f6.length c6, .slice A7 x.f7.length c7] 78)).cell? ⟨wr.heap.size, 2, none⟩ = some (.string x.f2) := blk_cell hb0.out 2
      have n3 : (wr.alloc (.cells #[.int .i64 x.f0, .int .i64 x.f1, .string x.f2, .string x.f3, .bool x.f4, .bool x.f5, .slice A6 x.f6.length c6, .slice A7 x.f7.length c7] 78)).cell? ⟨wr.heap.size, 3, none⟩ = some (.string x.f3) := blk_cell hb0.out 3
      have n4 : (wr.alloc (.cells #[.int .i64 x.f0, .int .i64 x.f1, .string x.f2, .string x.f3, .bool x.f4, .bool x.f5, .slice A6 x.f6.length c6, .slice A7 x.f7.length c7] 78)).cell? ⟨wr.heap.size, 4, none⟩ = some (.bool x.f4) := blk_cell hb0.out 4
      have n5 : (wr.alloc (.cells #[.int .i64 x.f0, .int .i64 x.f1, .string x.f2, .string x.f3, .bool x.f4, .bool x.f5, .slice A6 x.f6.length c6, .slice A7 x.f7.length c7] 78)).cell? ⟨wr.heap.size, 5, none⟩ = some (.bool x.f5) := blk_cell hb0.out 5
      have n6 : (wr.alloc (.cells #[.int .i64 x.f0, .int .i64 x.f1, .string x.f2, .string x.f3, .bool x.f4, .bool x.f5, .slice A6 x.f6.length c6, .slice A7 x.f7.length c7] 78)).cell? ⟨wr.heap.size, 6, none⟩ = some (.slice A6 x.f6.length c6) := blk_cell hb0.out 6
      have n7 : (wr.alloc (.cells #[.int .i64 x.f0, .int .i64 x.f1, .string x.f2, .string x.f3, .bool x.f4, .bool x.f5, .slice A6 x.f6.length c6, .slice A7 x.f7.length c7] 78)).cell? ⟨wr.heap.size, 7, none⟩ = some (.slice A7 x.f7.length c7) := blk_cell hb0.out 7
      cases k4 : (x.f0 == 4)
      · simp only [k4, Bool.true_and, Bool.false_and, Bool.not_true, Bool.not_false, Bool.false_eq_true, if_true, if_false] at hq
        cases h6 : cS x.f6 ns with
        | some a6 =>
          rw [h6] at hc6 hq
          dsimp only at hc6 hq
          go_wp2_with (first | (go_at_call 36; (with_reducible refine (hc6.out a _ hS0.out).mono ?_); rintro e_ w1 ⟨rfl, hS1, hK1⟩; have hb1 := Aside0.mk ((hK1.2 wr.heap.size (blk_lt hb0.out) hnt hne).trans hb0.out); have hS1 := Aside0.mk hS1; have hK1 := Aside0.mk (hK0.out.trans hK1); clear n0 n1 n2 n3 n4 n5 n6 n7; have n0 : w1.cell? ⟨wr.heap.size, 0, none⟩ = some (.int .i64 x.f0) := blk_cell hb1.out 0; have n1 : w1.cell? ⟨wr.heap.size, 1, none⟩ = some (.int .i64 x.f1) := blk_cell hb1.out 1; have n2 : w1.cell? ⟨wr.heap.size, 2, none⟩ = some (.string x.f2) := blk_cell hb1.out 2; have n3 : w1.cell? ⟨wr.heap.size, 3, none⟩ = some (.string x.f3) := blk_cell hb1.out 3; have n4 : w1.cell? ⟨wr.heap.size, 4, none⟩ = some (.bool x.f4) := blk_cell hb1.out 4; have n5 : w1.cell? ⟨wr.heap.size, 5, none⟩ = some (.bool x.f5) := blk_cell hb1.out 5; have n6 : w1.cell? ⟨wr.heap.size, 6, none⟩ = some (.slice A6 x.f6.length c6) := blk_cell hb1.out 6; have n7 : w1.cell? ⟨wr.heap.size, 7, none⟩ = some (.slice A7 x.f7.length c7) := blk_cell hb1.out 7))
          go_ret
          rw [hq.out]
          exact ⟨rfl, hS1.out, hK1.out⟩
        | none =>
          rw [h6] at hc6 hq
          dsimp only at hc6 hq
          cases h7 : cS x.f7 ns with
          | some a7 =>
            rw [h7] at hc7 hq
            dsimp only at hc7 hq
            go_wp2_with (first | (go_at_call 36; (with_reducible refine (hc6.out a _ hS0.out).mono ?_); rintro e_ w1 ⟨rfl, hS1, hK1⟩; have hb1 := Aside0.mk ((hK1.2 wr.heap.size (blk_lt hb0.out) hnt hne).trans hb0.out); have hS1 := Aside0.mk hS1; have hK1 := Aside0.mk (hK0.out.trans hK1); clear n0 n1 n2 n3 n4 n5 n6 n7; have n0 : w1.cell? ⟨wr.heap.size, 0, none⟩ = some (.int .i64 x.f0) := blk_cell hb1.out 0; have n1 : w1.cell? ⟨wr.heap.size, 1, none⟩ = some (.int .i64 x.f1) := blk_cell hb1.out 1; have n2 : w1.cell? ⟨wr.heap.size, 2, none⟩ = some (.string x.f2) := blk_cell hb1.out 2; have n3 : w1.cell? ⟨wr.heap.size, 3, none⟩ = some (.string x.f3) := blk_cell hb1.out 3; have n4 : w1.cell? ⟨wr.heap.size, 4, none⟩ = some (.bool x.f4) := blk_cell hb1.out 4; have n5 : w1.cell? ⟨wr.heap.size, 5, none⟩ = some (.bool x.f5) := blk_cell hb1.out 5; have n6 : w1.cell? ⟨wr.heap.size, 6, none⟩ = some (.slice A6 x.f6.length c6) := blk_cell hb1.out 6; have n7 : w1.cell? ⟨wr.heap.size, 7, none⟩ = some (.slice A7 x.f7.length c7) := blk_cell hb1.out 7) | (go_at_call 36; (with_reducible refine (hc7.out a _ hS1.out).mono ?_); rintro e_ w2 ⟨rfl, hS2, hK2⟩; have hb2 := Aside0.mk ((hK2.2 wr.heap.size (blk_lt hb1.out) hnt hne).trans hb1.out); have hS2 := Aside0.mk hS2; have hK2 := Aside0.mk (hK1.out.trans hK2); clear n0 n1 n2 n3 n4 n5 n6 n7; have n0 : w2.cell? ⟨wr.heap.size, 0, none⟩ = some (.int .i64 x.f0) := blk_cell hb2.out 0; have n1 : w2.cell? ⟨wr.heap.size, 1, none⟩ = some (.int .i64 x.f1) := blk_cell hb2.out 1; have n2 : w2.cell? ⟨wr.heap.size, 2, none⟩ = some (.string x.f2) := blk_cell hb2.out 2; have n3 : w2.cell? ⟨wr.heap.size, 3, none⟩ = some (.string x.f3) := blk_cell hb2.out 3; have n4 : w2.cell? ⟨wr.heap.size, 4, none⟩ = some (.bool x.f4) := blk_cell hb2.out 4; have n5 : w2.cell? ⟨wr.heap.size, 5, none⟩ = some (.bool x.f5) := blk_cell hb2.out 5; have n6 : w2.cell? ⟨wr.heap.size, 6, none⟩ = some (.slice A6 x.f6.length c6) := blk_cell hb2.out 6; have n7 : w2.cell? ⟨wr.heap.size, 7, none⟩ = some (.slice A7 x.f7.length c7) := blk_cell hb2.out 7))
            go_ret
            rw [hq.out]
            exact ⟨rfl, hS2.out, hK2.out⟩
          | none =>
            rw [h7] at hc7 hq
            dsimp only at hc7 hq
            change Aside0 (q = callsR (l.drop (i + 1)) ns a) at hq
            go_wp2_with (first | (go_at_call 36; (with_reducible refine (hc6.out a _ hS0.out).mono ?_); rintro e_ w1 ⟨rfl, hS1, hK1⟩; have hb1 := Aside0.mk ((hK1.2 wr.heap.size (blk_lt hb0.out) hnt hne).trans hb0.out); have hS1 := Aside0.mk hS1; have hK1 := Aside0.mk (hK0.out.trans hK1); clear n0 n1 n2 n3 n4 n5 n6 n7; have n0 : w1.cell? ⟨wr.heap.size, 0, none⟩ = some (.int .i64 x.f0) := blk_cell hb1.out 0; have n1 : w1.cell? ⟨wr.heap.size, 1, none⟩ = some (.int .i64 x.f1) := blk_cell hb1.out 1; have n2 : w1.cell? ⟨wr.heap.size, 2, none⟩ = some (.string x.f2) := blk_cell hb1.out 2; have n3 : w1.cell? ⟨wr.heap.size, 3, none⟩ = some (.string x.f3) := blk_cell hb1.out 3; have n4 : w1.cell? ⟨wr.heap.size, 4, none⟩ = some (.bool x.f4) := blk_cell hb1.out 4; have n5 : w1.cell? ⟨wr.heap.size, 5, none⟩ = some (.bool x.f5) := blk_cell hb1.out 5; have n6 : w1.cell? ⟨wr.heap.size, 6, none⟩ = some (.slice A6 x.f6.length c6) := blk_cell hb1.out 6; have n7 : w1.cell? ⟨wr.heap.size, 7, none⟩ = some (.slice A7 x.f7.length c7) := blk_cell hb1.out 7) | (go_at_call 36; (with_reducible refine (hc7.out a _ hS1.out).mono ?_); rintro e_ w2 ⟨rfl, hS2, hK2⟩; have hb2 := Aside0.mk ((hK2.2 wr.heap.size (blk_lt hb1.out) hnt hne).trans hb1.out); have hS2 := Aside0.mk hS2; have hK2 := Aside0.mk (hK1.out.trans hK2); clear n0 n1 n2 n3 n4 n5 n6 n7; have n0 : w2.cell? ⟨wr.heap.size, 0, none⟩ = some (.int .i64 x.f0) := blk_cell hb2.out 0; have n1 : w2.cell? ⟨wr.heap.size, 1, none⟩ = some (.int .i64 x.f1) := blk_cell hb2.out 1; have n2 : w2.cell? ⟨wr.heap.size, 2, none⟩ = some (.string x.f2) := blk_cell hb2.out 2; have n3 : w2.cell? ⟨wr.heap.size, 3, none⟩ = some (.string x.f3) := blk_cell hb2.out 3; have n4 : w2.cell? ⟨wr.heap.size, 4, none⟩ = some (.bool x.f4) := blk_cell hb2.out 4; have n5 : w2.cell? ⟨wr.heap.size, 5, none⟩ = some (.bool x.f5) := blk_cell hb2.out 5; have n6 : w2.cell? ⟨wr.heap.size, 6, none⟩ = some (.slice A6 x.f6.length c6) := blk_cell hb2.out 6; have n7 : w2.cell? ⟨wr.heap.size, 7, none⟩ = some (.slice A7 x.f7.length c7) := blk_cell hb2.out 7))
            go_roundg (gk - 1)
            case measure => omega
            case rel => exact ⟨i + 1, by omega, by simp, hq.out, by have := hlen.out; omega, hS2.out, hK2.out⟩
      · cases hi : inN ns x.f2
        · simp only [k4, hi, Bool.true_and, Bool.false_and, Bool.not_true, Bool.not_false, Bool.false_eq_true, if_true, if_false] at hq
          simp only [hi, Bool.true_and, Bool.false_and, Bool.not_true, Bool.not_false, Bool.false_eq_true, if_true, if_false] at hcl
          try dsimp only at hq
          go_wp2_with (first | (go_at_call 37; (with_reducible refine (hcl.out _ hS0.out).mono ?_); rintro e_ w1 ⟨rfl, hS1, hK1⟩; have hb1 := Aside0.mk ((hK1.2 wr.heap.size (blk_lt hb0.out) hnt hne).trans hb0.out); have hS1 := Aside0.mk hS1; have hK1 := Aside0.mk (hK0.out.trans hK1); clear n0 n1 n2 n3 n4 n5 n6 n7; have n0 : w1.cell? ⟨wr.heap.size, 0, none⟩ = some (.int .i64 x.f0) := blk_cell hb1.out 0; have n1 : w1.cell? ⟨wr.heap.size, 1, none⟩ = some (.int .i64 x.f1) := blk_cell hb1.out 1; have n2 : w1.cell? ⟨wr.heap.size, 2, none⟩ = some (.string x.f2) := blk_cell hb1.out 2; have n3 : w1.cell? ⟨wr.heap.size, 3, none⟩ = some (.string x.f3) := blk_cell hb1.out 3; have n4 : w1.cell? ⟨wr.heap.size, 4, none⟩ = some (.bool x.f4) := blk_cell hb1.out 4; have n5 : w1.cell? ⟨wr.heap.size, 5, none⟩ = some (.bool x.f5) := blk_cell hb1.out 5; have n6 : w1.cell? ⟨wr.heap.size, 6, none⟩ = some (.slice A6 x.f6.length c6) := blk_cell hb1.out 6; have n7 : w1.cell? ⟨wr.heap.size, 7, none⟩ = some (.slice A7 x.f7.length c7) := blk_cell hb1.out 7))
          go_ret
          rw [hq.out]
          exact ⟨rfl, hS1.out, hK1.out⟩
        · simp only [k4, hi, Bool.true_and, Bool.false_and, Bool.not_true, Bool.not_false, Bool.false_eq_true, if_true, if_false] at hq
          simp only [hi, Bool.true_and, Bool.false_and, Bool.not_true, Bool.not_false, Bool.false_eq_true, if_true, if_false] at hcl
          cases h6 : cS x.f6 ns with
          | some a6 =>
            rw [h6] at hc6 hq
            dsimp only at hc6 hq
            go_wp2_with (first | (go_at_call 37; (with_reducible refine (hcl.out _ hS0.out).mono ?_); rintro e_ w1 ⟨rfl, hS1, hK1⟩; have hb1 := Aside0.mk ((hK1.2 wr.heap.size (blk_lt hb0.out) hnt hne).trans hb0.out); have hS1 := Aside0.mk hS1; have hK1 := Aside0.mk (hK0.out.trans hK1); clear n0 n1 n2 n3 n4 n5 n6 n7; have n0 : w1.cell? ⟨wr.heap.size, 0, none⟩ = some (.int .i64 x.f0) := blk_cell hb1.out 0; have n1 : w1.cell? ⟨wr.heap.size, 1, none⟩ = some (.int .i64 x.f1) := blk_cell hb1.out 1; have n2 : w1.cell? ⟨wr.heap.size, 2, none⟩ = some (.string x.f2) := blk_cell hb1.out 2; have n3 : w1.cell? ⟨wr.heap.size, 3, none⟩ = some (.string x.f3) := blk_cell hb1.out 3; have n4 : w1.cell? ⟨wr.heap.size, 4, none⟩ = some (.bool x.f4) := blk_cell hb1.out 4; have n5 : w1.cell? ⟨wr.heap.size, 5, none⟩ = some (.bool x.f5) := blk_cell hb1.out 5; have n6 : w1.cell? ⟨wr.heap.size, 6, none⟩ = some (.slice A6 x.f6.length c6) := blk_cell hb1.out 6; have n7 : w1.cell? ⟨wr.heap.size, 7, none⟩ = some (.slice A7 x.f7.length c7) := blk_cell hb1.out 7) | (go_at_call 36; (with_reducible refine (hc6.out a _ hS1.out).mono ?_); rintro e_ w2 ⟨rfl, hS2, hK2⟩; have hb2 := Aside0.mk ((hK2.2 wr.heap.size (blk_lt hb1.out) hnt hne).trans hb1.out); have hS2 := Aside0.mk hS2; have hK2 := Aside0.mk (hK1.out.trans hK2); clear n0 n1 n2 n3 n4 n5 n6 n7; have n0 : w2.cell? ⟨wr.heap.size, 0, none⟩ = some (.int .i64 x.f0) := blk_cell hb2.out 0; have n1 : w2.cell? ⟨wr.heap.size, 1, none⟩ = some (.int .i64 x.f1) := blk_cell hb2.out 1; have n2 : w2.cell? ⟨wr.heap.size, 2, none⟩ = some (.string x.f2) := blk_cell hb2.out 2; have n3 : w2.cell? ⟨wr.heap.size, 3, none⟩ = some (.string x.f3) := blk_cell hb2.out 3; have n4 : w2.cell? ⟨wr.heap.size, 4, none⟩ = some (.bool x.f4) := blk_cell hb2.out 4; have n5 : w2.cell? ⟨wr.heap.size, 5, none⟩ = some (.bool x.f5) := blk_cell hb2.out 5; have n6 : w2.cell? ⟨wr.heap.size, 6, none⟩ = some (.slice A6 x.f6.length c6) := blk_cell hb2.out 6; have n7 : w2.cell? ⟨wr.heap.size, 7, none⟩ = some (.slice A7 x.f7.length c7) := blk_cell hb2.out 7))
            go_ret
            rw [hq.out]
            exact ⟨rfl, hS2.out, hK2.out⟩
          | none =>
            rw [h6] at hc6 hq
            dsimp only at hc6 hq
            cases h7 : cS x.f7 ns with
            | some a7 =>
              rw [h7] at hc7 hq
              dsimp only at hc7 hq
              go_wp2_with (first | (go_at_call 37; (with_reducible refine (hcl.out _ hS0.out).mono ?_); rintro e_ w1 ⟨rfl, hS1, hK1⟩; have hb1 := Aside0.mk ((hK1.2 wr.heap.size (blk_lt hb0.out) hnt hne).trans hb0.out); have hS1 := Aside0.mk hS1; have hK1 := Aside0.mk (hK0.out.trans hK1); clear n0 n1 n2 n3 n4 n5 n6 n7; have n0 : w1.cell? ⟨wr.heap.size, 0, none⟩ = some (.int .i64 x.f0) := blk_cell hb1.out 0; have n1 : w1.cell? ⟨wr.heap.size, 1, none⟩ = some (.int .i64 x.f1) := blk_cell hb1.out 1; have n2 : w1.cell? ⟨wr.heap.size, 2, none⟩ = some (.string x.f2) := blk_cell hb1.out 2; have n3 : w1.cell? ⟨wr.heap.size, 3, none⟩ = some (.string x.f3) := blk_cell hb1.out 3; have n4 : w1.cell? ⟨wr.heap.size, 4, none⟩ = some (.bool x.f4) := blk_cell hb1.out 4; have n5 : w1.cell? ⟨wr.heap.size, 5, none⟩ = some (.bool x.f5) := blk_cell hb1.out 5; have n6 : w1.cell? ⟨wr.heap.size, 6, none⟩ = some (.slice A6 x.f6.length c6) := blk_cell hb1.out 6; have n7 : w1.cell? ⟨wr.heap.size, 7, none⟩ = some (.slice A7 x.f7.length c7) := blk_cell hb1.out 7) | (go_at_call 36; (with_reducible refine (hc6.out a _ hS1.out).mono ?_); rintro e_ w2 ⟨rfl, hS2, hK2⟩; have hb2 := Aside0.mk ((hK2.2 wr.heap.size (blk_lt hb1.out) hnt hne).trans hb1.out); have hS2 := Aside0.mk hS2; have hK2 := Aside0.mk (hK1.out.trans hK2); clear n0 n1 n2 n3 n4 n5 n6 n7; have n0 : w2.cell? ⟨wr.heap.size, 0, none⟩ = some (.int .i64 x.f0) := blk_cell hb2.out 0; have n1 : w2.cell? ⟨wr.heap.size, 1, none⟩ = some (.int .i64 x.f1) := blk_cell hb2.out 1; have n2 : w2.cell? ⟨wr.heap.size, 2, none⟩ = some (.string x.f2) := blk_cell hb2.out 2; have n3 : w2.cell? ⟨wr.heap.size, 3, none⟩ = some (.string x.f3) := blk_cell hb2.out 3; have n4 : w2.cell? ⟨wr.heap.size, 4, none⟩ = some (.bool x.f4) := blk_cell hb2.out 4; have n5 : w2.cell? ⟨wr.heap.size, 5, none⟩ = some (.bool x.f5) := blk_cell hb2.out 5; have n6 : w2.cell? ⟨wr.heap.size, 6, none⟩ = some (.slice A6 x.f6.length c6) := blk_cell hb2.out 6; have n7 : w2.cell? ⟨wr.heap.size, 7, none⟩ = some (.slice A7 x.f7.length c7) := blk_cell hb2.out 7) | (go_at_call 36; (with_reducible refine (hc7.out a _ hS2.out).mono ?_); rintro e_ w3 ⟨rfl, hS3, hK3⟩; have hb3 := Aside0.mk ((hK3.2 wr.heap.size (blk_lt hb2.out) hnt hne).trans hb2.out); have hS3 := Aside0.mk hS3; have hK3 := Aside0.mk (hK2.out.trans hK3); clear n0 n1 n2 n3 n4 n5 n6 n7; have n0 : w3.cell? ⟨wr.heap.size, 0, none⟩ = some (.int .i64 x.f0) := blk_cell hb3.out 0; have n1 : w3.cell? ⟨wr.heap.size, 1, none⟩ = some (.int .i64 x.f1) := blk_cell hb3.out 1; have n2 : w3.cell? ⟨wr.heap.size, 2, none⟩ = some (.string x.f2) := blk_cell hb3.out 2; have n3 : w3.cell? ⟨wr.heap.size, 3, none⟩ = some (.string x.f3) := blk_cell hb3.out 3; have n4 : w3.cell? ⟨wr.heap.size, 4, none⟩ = some (.bool x.f4) := blk_cell hb3.out 4; have n5 : w3.cell? ⟨wr.heap.size, 5, none⟩ = some (.bool x.f5) := blk_cell hb3.out 5; have n6 : w3.cell? ⟨wr.heap.size, 6, none⟩ = some (.slice A6 x.f6.length c6) := blk_cell hb3.out 6; have n7 : w3.cell? ⟨wr.heap.size, 7, none⟩ = some (.slice A7 x.f7.length c7) := blk_cell hb3.out 7))
              go_ret
              rw [hq.out]
              exact ⟨rfl, hS3.out, hK3.out⟩
            | none =>
              rw [h7] at hc7 hq
              dsimp only at hc7 hq
              change Aside0 (q = callsR (l.drop (i + 1)) ns a) at hq
              go_wp2_with (first | (go_at_call 37; (with_reducible refine (hcl.out _ hS0.out).mono ?_); rintro e_ w1 ⟨rfl, hS1, hK1⟩; have hb1 := Aside0.mk ((hK1.2 wr.heap.size (blk_lt hb0.out) hnt hne).trans hb0.out); have hS1 := Aside0.mk hS1; have hK1 := Aside0.mk (hK0.out.trans hK1); clear n0 n1 n2 n3 n4 n5 n6 n7; have n0 : w1.cell? ⟨wr.heap.size, 0, none⟩ = some (.int .i64 x.f0) := blk_cell hb1.out 0; have n1 : w1.cell? ⟨wr.heap.size, 1, none⟩ = some (.int .i64 x.f1) := blk_cell hb1.out 1; have n2 : w1.cell? ⟨wr.heap.size, 2, none⟩ = some (.string x.f2) := blk_cell hb1.out 2; have n3 : w1.cell? ⟨wr.heap.size, 3, none⟩ = some (.string x.f3) := blk_cell hb1.out 3; have n4 : w1.cell? ⟨wr.heap.size, 4, none⟩ = some (.bool x.f4) := blk_cell hb1.out 4; have n5 : w1.cell? ⟨wr.heap.size, 5, none⟩ = some (.bool x.f5) := blk_cell hb1.out 5; have n6 : w1.cell? ⟨wr.heap.size, 6, none⟩ = some (.slice A6 x.f6.length c6) := blk_cell hb1.out 6; have n7 : w1.cell? ⟨wr.heap.size, 7, none⟩ = some (.slice A7 x.f7.length c7) := blk_cell hb1.out 7) | (go_at_call 36; (with_reducible refine (hc6.out a _ hS1.out).mono ?_); rintro e_ w2 ⟨rfl, hS2, hK2⟩; have hb2 := Aside0.mk ((hK2.2 wr.heap.size (blk_lt hb1.out) hnt hne).trans hb1.out); have hS2 := Aside0.mk hS2; have hK2 := Aside0.mk (hK1.out.trans hK2); clear n0 n1 n2 n3 n4 n5 n6 n7; have n0 : w2.cell? ⟨wr.heap.size, 0, none⟩ = some (.int .i64 x.f0) := blk_cell hb2.out 0; have n1 : w2.cell? ⟨wr.heap.size, 1, none⟩ = some (.int .i64 x.f1) := blk_cell hb2.out 1; have n2 : w2.cell? ⟨wr.heap.size, 2, none⟩ = some (.string x.f2) := blk_cell hb2.out 2; have n3 : w2.cell? ⟨wr.heap.size, 3, none⟩ = some (.string x.f3) := blk_cell hb2.out 3; have n4 : w2.cell? ⟨wr.heap.size, 4, none⟩ = some (.bool x.f4) := blk_cell hb2.out 4; have n5 : w2.cell? ⟨wr.heap.size, 5, none⟩ = some (.bool x.f5) := blk_cell hb2.out 5; have n6 : w2.cell? ⟨wr.heap.size, 6, none⟩ = some (.slice A6 x.f6.length c6) := blk_cell hb2.out 6; have n7 : w2.cell? ⟨wr.heap.size, 7, none⟩ = some (.slice A7 x.f7.length c7) := blk_cell hb2.out 7) | (go_at_call 36; (with_reducible refine (hc7.out a _ hS2.out).mono ?_); rintro e_ w3 ⟨rfl, hS3, hK3⟩; have hb3 := Aside0.mk ((hK3.2 wr.heap.size (blk_lt hb2.out) hnt hne).trans hb2.out); have hS3 := Aside0.mk hS3; have hK3 := Aside0.mk (hK2.out.trans hK3); clear n0 n1 n2 n3 n4 n5 n6 n7; have n0 : w3.cell? ⟨wr.heap.size, 0, none⟩ = some (.int .i64 x.f0) := blk_cell hb3.out 0; have n1 : w3.cell? ⟨wr.heap.size, 1, none⟩ = some (.int .i64 x.f1) := blk_cell hb3.out 1; have n2 : w3.cell? ⟨wr.heap.size, 2, none⟩ = some (.string x.f2) := blk_cell hb3.out 2; have n3 : w3.cell? ⟨wr.heap.size, 3, none⟩ = some (.string x.f3) := blk_cell hb3.out 3; have n4 : w3.cell? ⟨wr.heap.size, 4, none⟩ = some (.bool x.f4) := blk_cell hb3.out 4; have n5 : w3.cell? ⟨wr.heap.size, 5, none⟩ = some (.bool x.f5) := blk_cell hb3.out 5; have n6 : w3.cell? ⟨wr.heap.size, 6, none⟩ = some (.slice A6 x.f6.length c6) := blk_cell hb3.out 6; have n7 : w3.cell? ⟨wr.heap.size, 7, none⟩ = some (.slice A7 x.f7.length c7) := blk_cell hb3.out 7))
              go_roundg (gk - 1)
              case measure => omega
              case rel => exact ⟨i + 1, by omega, by simp, hq.out, by have := hlen.out; omega, hS3.out, hK3.out⟩
    · have hl : decide ((i : Int) < (l.length : Int)) = false := decide_eq_false (by omega)
      rw [List.drop_eq_nil_of_le (by omega)] at hq
      unfold callsR at hq
      rw [cS] at hq
      dsimp only at hq
      subst hq
      clear ih hC
      replace hS := Aside0.mk hS
      replace hK := Aside0.mk hK
      go_wp2
      go_ret
      exact ⟨rfl, hS.out, hK.out⟩
theorem calls_all : ∀ (n : Nat), (∀ l : List S78, SizeOf.sizeOf l < n → calls.Con l) := by
  intro n
  induction n with
  | zero => intro l h; exact absurd h (Nat.not_lt_zero _)
  | succ n ih =>
    intro l h
    refine calls.step l fun x hx => ?_
    have h1 := List.sizeOf_lt_of_mem hx
    have h2 : SizeOf.sizeOf x.f6 < SizeOf.sizeOf x ∧ SizeOf.sizeOf x.f7 < SizeOf.sizeOf x := by cases x; simp; omega
    exact ⟨ih _ (by omega), ih _ (by omega)⟩
theorem calls_any (l : List S78) : calls.Con l := calls_all _ l (Nat.lt_succ_self _)
end Go.Proofs.YtkpnfejfbmandaaDoor.Px

/- defines.Check. -/
namespace Go.Proofs.YtkpnfejfbmandaaDoor.Px
open Go.RowKit Go.Proofs.YtkpnfejfbmandaaDoorW.PrintWords Go.Proofs.YtkpnfejfbmandaaDoorW.PrintLast Go.Proofs.YtkpnfejfbmandaaDoorW.PrintMore
set_option linter.unusedVariables false
set_option linter.unusedSimpArgs false
structure DLoop (w : World) (l : List S78) (R : Except (Int × Int) (List ByteArray)) (i : Nat) (ns : List ByteArray) (n : Nat) (D : DataW Unit) (wr : World) : Prop where
  eq : dS (l.drop i) ns = R
  mp : MpB wr w.heap.size ns n D
  c : wr.heap[w.heap.size + 1]? = some (.cells #[.map (some w.heap.size)] 82 (0, 0))
  bel : Below w.heap.size w wr
  le : ns.length ≤ 64
set_option maxHeartbeats 4000000 in
set_option maxRecDepth 100000 in
theorem check_any (l : List S78) (A : Option Addr) (c : Nat) (w : World) (hC : Kd.C k78 w A l.length l) (hc : l.length ≤ c) (hsm : smL l) (hlen : nL l ≤ 1000000) :
    Calls Tryd.prog 16 #[.slice A l.length c] w fun e w' => e = .returned (.tuple #[.int .i64 (checkF l).1, .int .i64 (checkF l).2]) ∧ Below w.heap.size w w' := by
  obtain ⟨r, hr⟩ : ∃ r, r = checkF l := ⟨_, rfl⟩
  rw [← hr]
  have hll : l.length ≤ 1000000 := by have := nL_len l; omega
  have hmm := @run_makeMap Tryd.prog
  have hcalls := Aside0.mk (fun bm bc bt be ns n D a W h => calls_any l w bm bc bt be ns n D a A c W h hC hc hsm hlen)
  have H0 : DLoop w l (dS l []) 0 [] 0 (.map []) ((w.alloc (.map #[] 0)).alloc (.cells #[.map (some w.heap.size)] 82)) := ⟨rfl, (MpB.start w).move (Below.heap_alloc _ _ _ (by rw [World.size_alloc]; omega)), blk_n1 _ _ _, below_alloc (below_alloc (Below.refl _ _) _) _, by decide⟩
  unfold checkF at hr
  generalize dS l [] = R at *
  replace hr := Aside0.mk hr
  replace hC := Aside0.mk hC
  replace H0 := Aside0.mk H0
  replace hsm := Aside0.mk hsm
  go_enter Tryd.func16, Tryd.ntmps16
  go_wp2
  go_loopg [12] l.length (fun kq v12 wr => ∃ (i : Nat) (ns : List ByteArray) (n : Nat) (D : DataW Unit), kq + i = l.length ∧ v12 = .int .i64 i ∧ DLoop w l R i ns n D wr)
  case atStart => exact ⟨0, [], 0, .map [], rfl, rfl, H0.out⟩
  case round =>
    clear H0 hmm
    obtain ⟨i, ns, n, D, hki, rfl, HR⟩ := hrel
    have hcc : wr.cell? ⟨w.heap.size + 1, 0, none⟩ = some (.map (some w.heap.size)) := blk_cell HR.c 0
    have hlc := blk_lt HR.c
    by_cases hlt2 : i < l.length
    · have hl : decide ((i : Int) < (l.length : Int)) = true := decide_eq_true (by omega)
      have hd : l.drop i = l[i] :: l.drop (i + 1) := List.drop_eq_getElem_cons hlt2
      obtain ⟨ad, A6, c6, A7, c7, hA, x0, x1, x2, x3, x4, x5, x6, x7, -⟩ := at_T78 hC.out (i : Int) (by omega) (by omega)
      have hrd : rd_T78 l (i : Int) = l[i] := by unfold rd_T78; simp [List.getD, hlt2]
      simp only [Int.toNat_natCast] at x0 x1 x2 x3 x4 x5 x6 x7
      rw [hrd] at x0 x1 x2 x3 x4 x5 x6 x7
      have hsd := sm_drop l i hsm.out
      have HE := HR.eq
      rw [hd] at HE hsd
      generalize l[i] = x at *
      subst hA
      have up : ∀ {a : Addr} {u : Value}, w.cell? a = some u → wr.cell? a = some u := fun h => (HR.bel.cell (World.block_lt_of_cell? _ _ h)).trans h
      have hab := World.block_lt_of_cell? _ _ (up x0)
      replace x0 := up x0
      replace x1 := up x1
      replace x2 := up x2
      replace x3 := up x3
      replace x4 := up x4
      replace x5 := up x5
      replace x6 := up x6
      replace x7 := up x7
      clear up hrd hC
      have hsx : x.f2.size ≤ 65536 := by have := hsd.1; cases x; simp only [smN] at this; exact this.1
      have hkey : keyOf Tryd.prog 9 (.string x.f2) = some (kS x.f2) := Go.WideMaps.keyOf_string_mk Tryd.underlying9 (show x.f2.size ≤ maxLen by unfold maxLen; omega)
      have hM : ∀ ob, MpB (wr.alloc ob) w.heap.size ns n D := fun ob => HR.mp.move (Below.heap_alloc _ _ _ HR.mp.own.lt)
      have hlook := fun ob => (hM ob).look x.f2 hsx
      have hlq : ∀ ob ty, (Builtin.len_ #[82] ty #[.map (some w.heap.size)]).run Tryd.prog (wr.alloc ob) = .ok (.int .i64 ns.length) (wr.alloc ob) := fun ob ty => by rw [(hM ob).own.len Tryd.underlying82 ty, HR.mp.size]
      have hnl := HR.le
      have hnn := HR.mp.le
      have hsz := HR.mp.size
      rw [dS] at HE
      replace HR := Aside0.mk HR
      replace hM := Aside0.mk hM
      replace hsz := Aside0.mk hsz
      replace hkey := Aside0.mk hkey
      clear hsd hsx hd
      by_cases k6 : x.f0 = 6
      case neg =>
        rw [if_neg k6] at HE
        have k6' : (x.f0 != 6) = true := by simp [k6]
        replace HE := Aside0.mk HE
        clear k6 hlook
        go_wp2
        go_roundg (gk - 1)
        case measure => omega
        case rel => exact ⟨i + 1, ns, n, D, by omega, by simp, HE.out, hM.out _, blk_alloc HR.out.c _, below_alloc HR.out.bel _, HR.out.le⟩
      rw [if_pos k6] at HE
      have k6' : (x.f0 != 6) = false := by simp [k6]
      clear k6
      cases hi : inN ns x.f2
      case true =>
        rw [hi, if_pos rfl] at HE
        rw [hi] at hlook
        have hr2 := hr.out
        rw [← HE] at hr2
        dsimp only at hr2
        replace HE := Aside0.mk HE
        replace hr2 := Aside0.mk hr2
        go_wp2
        go_ret2
        exact ⟨by rw [hr2.out]; rfl, below_alloc HR.out.bel _⟩
      rw [hi, if_neg (by decide)] at HE
      rw [hi] at hlook
      by_cases h64 : ns.length = 64
      · rw [if_pos h64] at HE
        have hr2 := hr.out
        rw [← HE] at hr2
        dsimp only at hr2
        have h64' : ((ns.length : Int) == 64) = true := by simp [h64]
        replace HE := Aside0.mk HE
        replace hr2 := Aside0.mk hr2
        clear h64
        go_wp2
        go_ret2
        exact ⟨by rw [hr2.out]; rfl, below_alloc HR.out.bel _⟩
      · rw [if_neg h64] at HE
        have h64' : ((ns.length : Int) == 64) = false := by rw [beq_eq_false_iff_ne]; omega
        replace HE := Aside0.mk HE
        have hlt64 : ns.length < 64 := by omega
        clear h64
        obtain ⟨w2, hrun, hO2, hg2⟩ := ((hM.out (.cells #[.int .i64 x.f0, .int .i64 x.f1, .string x.f2, .string x.f3, .bool x.f4, .bool x.f5, .slice A6 x.f6.length c6, .slice A7 x.f7.length c7] 78)).own).update law9 Tryd.underlying82 (by unfold maxLen; omega) hkey.out (plainElem_bool Tryd.underlying4 true)
        have hM2 := Aside0.mk ((hM.out (.cells #[.int .i64 x.f0, .int .i64 x.f1, .string x.f2, .string x.f3, .bool x.f4, .bool x.f5, .slice A6 x.f6.length c6, .slice A7 x.f7.length c7] 78)).put x.f2 hi hO2)
        replace hg2 := Aside0.mk hg2
        clear hO2
        go_wp2
        go_roundg (gk - 1)
        case measure => omega
        case rel =>
          exact ⟨i + 1, ns ++ [x.f2], n + 1, _, by omega, by simp, HE.out, hM2.out, blk_grown (blk_alloc HR.out.c _) hg2.out (by simp), (below_alloc HR.out.bel _).grown hg2.out (by rw [World.size_alloc]; have := HR.out.bel.size; omega) (fun k hk => by cases hk; exact Nat.le_refl _), by rw [List.length_append, List.length_singleton]; omega⟩
    · have hl : decide ((i : Int) < (l.length : Int)) = false := decide_eq_false (by omega)
      have HE := HR.eq
      rw [List.drop_eq_nil_of_le (by omega), dS] at HE
      have hr2 := hr.out
      rw [← HE] at hr2
      dsimp only at hr2
      have hcl := hcalls.out w.heap.size (w.heap.size + 1) wr.heap.size (wr.heap.size + 1) ns n D 0
      have hCI : CIn w w.heap.size (w.heap.size + 1) wr.heap.size (wr.heap.size + 1) ns n D 0 0 ((wr.alloc (.cells #[.int .i64 0] 3)).alloc (.cells #[.int .i64 0] 24)) :=
        ⟨(HR.mp.move (Below.heap_alloc _ _ _ HR.mp.own.lt)).move (Below.heap_alloc _ _ _ (by rw [World.size_alloc]; have := HR.mp.own.lt; omega)), blk_alloc (blk_alloc HR.c _) _, blk_alloc (blk_new _ _) _, blk_n1 _ _ _, below_alloc (below_alloc HR.bel _) _, by have := HR.bel.size; omega⟩
      have hmf : ∀ (fn : Fn) (first cap : Array Value) (w : World), (Instr.makeFunc fn first cap).run Tryd.prog w = .ok (.func fn first cap) w := fun _ _ _ _ => rfl
      unfold callsR at hcl
      replace hcl := Aside0.mk hcl
      replace hCI := Aside0.mk hCI
      clear hcalls hC HR hcc
      cases hcs : cS l ns with
      | some a =>
        rw [hcs] at hcl hr2
        dsimp only at hcl hr2
        replace hr2 := Aside0.mk hr2
        go_wp2_with (go_at_call 36; (with_reducible refine (hcl.out _ hCI.out).mono ?_); rintro e_ w3 ⟨rfl, h3, -⟩; have ht : w3.cell? ⟨wr.heap.size, 0, none⟩ = some (.int .i64 a) := blk_cell h3.t 0; have he : w3.cell? ⟨wr.heap.size + 1, 0, none⟩ = some (.int .i64 11) := blk_cell h3.e 0; replace h3 := Aside0.mk h3)
        go_quiet (fail)
        go_wp2
        go_ret2
        exact ⟨by rw [hr2.out]; rfl, by repeat (first | exact h3.out.bel | apply pw_below_drewN | apply below_drew1)⟩
      | none =>
        rw [hcs] at hcl hr2
        dsimp only at hcl hr2
        replace hr2 := Aside0.mk hr2
        go_wp2_with (go_at_call 36; (with_reducible refine (hcl.out _ hCI.out).mono ?_); rintro e_ w3 ⟨rfl, h3, -⟩; have ht : w3.cell? ⟨wr.heap.size, 0, none⟩ = some (.int .i64 0) := blk_cell h3.t 0; have he : w3.cell? ⟨wr.heap.size + 1, 0, none⟩ = some (.int .i64 0) := blk_cell h3.e 0; replace h3 := Aside0.mk h3)
        go_quiet (fail)
        go_wp2
        go_ret2
        exact ⟨by rw [hr2.out]; rfl, by repeat (first | exact h3.out.bel | apply pw_below_drewN | apply below_drew1)⟩
end Go.Proofs.YtkpnfejfbmandaaDoor.Px

/- infer.Infer. -/
namespace Go.Proofs.YtkpnfejfbmandaaDoor.Px
open Go.RowKit Go.Proofs.YtkpnfejfbmandaaDoorW.PrintWords Go.Proofs.YtkpnfejfbmandaaDoorW.PrintLast Go.Proofs.YtkpnfejfbmandaaDoorW.PrintMore
set_option linter.unusedVariables false
set_option linter.unusedSimpArgs false
/-- What Infer answers. -/
def inferE (l : List S78) : IS := if h : l = [] then (iL l hz ([], 0, 0)).2 else expI (iL l hz ([], 0, 0)).2 (l.getLast h).f1 (iL l hz ([], 0, 0)).1 hz 16
def inferF (l : List S78) : IS := if (inferE l).2.2 = 0 then ((inferE l).1, 0, 0) else ([], (inferE l).2.1, (inferE l).2.2)
set_option maxHeartbeats 4000000 in
set_option maxRecDepth 100000 in
theorem infer_any (l : List S78) (A : Option Addr) (c : Nat) (w : World) (hC : Kd.C k78 w A l.length l) (hc : l.length ≤ c) (hsm : smL l) (hlen : nL l ≤ 1000000) :
    Calls Tryd.prog 17 #[.slice A l.length c] w fun e w' => ∃ v, e = .returned (.tuple #[v, .int .i64 (inferF l).2.1, .int .i64 (inferF l).2.2]) ∧ Kd.R (Kd.int .i64) 3 w' w.heap.size (fun _ => True) v (inferF l).1 ∧ Below w.heap.size w w' := by
  have hcall := Aside0.mk (fun W (h : AIn w w.heap.size (.slice none 0 0) ([], 0, 0) W) => infer_list l w w.heap.size (.slice none 0 0) ([], 0, 0) ⟨0, ⟨#[]⟩, ⟨#[]⟩, ⟨#[]⟩⟩ A c W h hC hc hz_gd hsm (by simpa using hlen))
  have hS : AIn w w.heap.size (.slice none 0 0) ([], 0, 0) (w.alloc (.cells #[.slice none 0 0, .int .i64 0, .int .i64 0] 86)) := ⟨blk_new _ _, Kd.R_nil _ _ _ _ _, (Below.refl _ _).alloc (Nat.le_refl _) _, Nat.le_refl _⟩
  obtain ⟨r, hr⟩ : ∃ r, r = inferF l := ⟨_, rfl⟩
  rw [← hr]
  unfold inferF inferE at hr
  rw [hzE] at hr
  generalize iL l ⟨0, ⟨#[]⟩, ⟨#[]⟩, ⟨#[]⟩⟩ ([], 0, 0) = R at *
  obtain ⟨sx, tx⟩ := R
  dsimp only at hcall hr
  replace hr := Aside0.mk hr
  replace hC := Aside0.mk hC
  replace hS := Aside0.mk hS
  have hll : l.length ≤ 1000000 := by have := nL_len l; omega
  clear hsm hlen
  go_enter Tryd.func17, Tryd.ntmps17
  go_wp2_with fail
  refine (hcall.out _ hS.out).mono ?_
  rintro e w1 ⟨rfl, v1, h1⟩
  clear hcall
  replace h1 := Aside0.mk h1
  by_cases hn : l = []
  · subst hn
    have hR := hr.out
    rw [dif_pos rfl] at hR
    clear hr
    obtain ⟨e1, e2, e3⟩ := tx
    dsimp only at hR
    obtain ⟨⟨c0, c1, c2⟩, -⟩ := h1.out.st.cells
    dsimp only at c1 c2
    have hl : decide ((0 : Int) < (([] : List S78).length : Int)) = false := rfl
    have hlt1 := blk_lt h1.out.st.blk
    by_cases hE : e3 = 0
    · rw [if_pos hE] at hR
      subst hR
      have hE' : (e3 != 0) = false := by simp [hE]
      replace hE := Aside0.mk hE
      go_wp2
      go_ret3
      exact ⟨_, rfl, Kd.R_mono (h1.out.st.alloc _).own (fun _ _ => trivial), (h1.out.st.alloc _).bel⟩
    · rw [if_neg hE] at hR
      subst hR
      have hE' : (e3 != 0) = true := by simp [hE]
      replace hE := Aside0.mk hE
      go_wp2
      go_quiet (fail)
      go_wp2
      go_ret3
      exact ⟨_, rfl, Kd.R_nil _ _ _ _ _, by repeat (first | exact (h1.out.st.alloc _).bel | apply pw_below_drewN | apply below_drew1)⟩
  · have hpos : 0 < l.length := List.length_pos_iff.2 hn
    have hl : decide ((0 : Int) < (l.length : Int)) = true := decide_eq_true (by omega)
    obtain ⟨m, hm⟩ : ∃ m, l.length = m + 1 := ⟨l.length - 1, by omega⟩
    have hw1 : IntKind.i64.wrap ((l.length : Int) - 1) = (m : Int) := by rw [IntKind.wrap_i64]; omega
    have hm0 : (0 : Int) ≤ (m : Int) := by omega
    have hm1 : (m : Int) < (l.length : Int) := by omega
    obtain ⟨ad, A6, c6, A7, c7, rfl, x0, x1, x2, x3, x4, x5, x6, x7, -⟩ := at_T78 hC.out (m : Int) hm0 hm1
    have hrd : rd_T78 l (m : Int) = l.getLast hn := by unfold rd_T78; rw [List.getLast_eq_getElem]; simp [List.getD, hm]
    simp only [Int.toNat_natCast] at x0 x1 x2 x3 x4 x5 x6 x7
    rw [hrd] at x0 x1 x2 x3 x4 x5 x6 x7
    replace hm := Aside0.mk hm
    have X := Aside0.mk (And.intro x0 (And.intro x1 (And.intro x2 (And.intro x3 (And.intro x4 (And.intro x5 (And.intro x6 x7)))))))
    replace hr := hr.out
    rw [dif_neg hn] at hr
    generalize l.getLast hn = x at *
    have up : ∀ {a : Addr} {u : Value}, w.cell? a = some u → w1.cell? a = some u := fun h => (h1.out.st.bel.cell (World.block_lt_of_cell? _ _ h)).trans h
    have hab := World.block_lt_of_cell? _ _ (up x0)
    have hab0 := World.block_lt_of_cell? _ _ x0
    have b0 := World.block_lt_of_cell? _ _ (up x1)
    replace x0 := up x0
    replace x1 := up x1
    replace x2 := up x2
    replace x3 := up x3
    replace x4 := up x4
    replace x5 := up x5
    replace x6 := up x6
    replace x7 := up x7
    obtain ⟨W2, e2⟩ : ∃ W2, W2 = w1.alloc (.cells #[.int .i64 sx.c, .string sx.n, .string sx.a, .string sx.p] 88) := ⟨_, rfl⟩
    have h2 := Aside0.mk (show AOut w (w.alloc (.cells #[.slice none 0 0, .int .i64 0, .int .i64 0] 86)) w.heap.size (.slice none 0 0) v1 tx W2 from by rw [e2]; exact h1.out.alloc _)
    have hbx := Aside0.mk (show W2.heap[w1.heap.size]? = some (.cells (ag4 sx) 88 (0, 0)) from by rw [e2]; exact blk_new _ _)
    have up2 : ∀ {a : Addr} {u : Value}, w1.cell? a = some u → W2.cell? a = some u := fun h => by rw [e2]; exact pw_cell_below ((Below.refl _ _).alloc (Nat.le_refl _) _) h
    replace x0 := up2 x0
    replace x1 := up2 x1
    replace x2 := up2 x2
    replace x3 := up2 x3
    replace x4 := up2 x4
    replace x5 := up2 x5
    replace x6 := up2 x6
    replace x7 := up2 x7
    have y0 : W2.cell? ⟨w1.heap.size, 0, none⟩ = some (.int .i64 sx.c) := blk_cell hbx.out 0
    have y1 : W2.cell? ⟨w1.heap.size, 1, none⟩ = some (.string sx.n) := blk_cell hbx.out 1
    have y2 : W2.cell? ⟨w1.heap.size, 2, none⟩ = some (.string sx.a) := blk_cell hbx.out 2
    have y3 : W2.cell? ⟨w1.heap.size, 3, none⟩ = some (.string sx.p) := blk_cell hbx.out 3
    have hgl := blk_lt h1.out.st.blk
    replace hr := Aside0.mk hr
    go_upto_region 4 with fail
    rw [← e2]
    clear e2 up up2 hC hS hrd h1
    go_region_held3 (fun w' => w'.cell? (ad.add (m * 8)) = some (.int .i64 x.f0) ∧ w'.cell? ⟨(ad.add (m * 8)).block, (ad.add (m * 8)).off + 1, none⟩ = some (.int .i64 x.f1) ∧ w'.cell? ⟨(ad.add (m * 8)).block, (ad.add (m * 8)).off + 2, none⟩ = some (.string x.f2) ∧ w'.cell? ⟨(ad.add (m * 8)).block, (ad.add (m * 8)).off + 3, none⟩ = some (.string x.f3) ∧ w'.cell? ⟨(ad.add (m * 8)).block, (ad.add (m * 8)).off + 4, none⟩ = some (.bool x.f4) ∧ w'.cell? ⟨(ad.add (m * 8)).block, (ad.add (m * 8)).off + 5, none⟩ = some (.bool x.f5) ∧ w'.cell? ⟨(ad.add (m * 8)).block, (ad.add (m * 8)).off + 6, none⟩ = some (.slice A6 x.f6.length c6) ∧ w'.cell? ⟨(ad.add (m * 8)).block, (ad.add (m * 8)).off + 7, none⟩ = some (.slice A7 x.f7.length c7) ∧ w'.cell? ⟨w1.heap.size, 0, none⟩ = some (.int .i64 sx.c) ∧ w'.cell? ⟨w1.heap.size, 1, none⟩ = some (.string sx.n) ∧ w'.cell? ⟨w1.heap.size, 2, none⟩ = some (.string sx.a) ∧ w'.cell? ⟨w1.heap.size, 3, none⟩ = some (.string sx.p)) (exact ⟨x0, x1, x2, x3, x4, x5, x6, x7, y0, y1, y2, y3⟩) (first | (go_at_call 39; (with_reducible refine (expect_any x.f0 x.f1 x.f2 x.f3 x.f4 x.f5 _ _ sx ⟨0, ⟨#[]⟩, ⟨#[]⟩, ⟨#[]⟩⟩ 16 _ h2.out.st.drew).mono ?_); rintro e w3 ⟨rfl, h3⟩; have h4 := Aside0.mk (h2.out.drew.call h3); have up3 : ∀ {a : Addr} {u : Value}, w.cell? a = some u → w3.cell? a = some u := fun h => (h3.st.bel.cell (World.block_lt_of_cell? _ _ h)).trans h; have hb3 := Aside0.mk (h3.box h2.out.st.drew hbx.out (by decide) (by omega)); clear h3 x0 x1 x2 x3 x4 x5 x6 x7 y0 y1 y2 y3; obtain ⟨x0, x1, x2, x3, x4, x5, x6, x7⟩ := X.out; replace x0 := up3 x0; replace x1 := up3 x1; replace x2 := up3 x2; replace x3 := up3 x3; replace x4 := up3 x4; replace x5 := up3 x5; replace x6 := up3 x6; replace x7 := up3 x7; have y0 : w3.cell? ⟨w1.heap.size, 0, none⟩ = some (.int .i64 sx.c) := blk_cell hb3.out 0; have y1 : w3.cell? ⟨w1.heap.size, 1, none⟩ = some (.string sx.n) := blk_cell hb3.out 1; have y2 : w3.cell? ⟨w1.heap.size, 2, none⟩ = some (.string sx.a) := blk_cell hb3.out 2; have y3 : w3.cell? ⟨w1.heap.size, 3, none⟩ = some (.string sx.p) := blk_cell hb3.out 3))
    clear x0 x1 x2 x3 x4 x5 x6 x7 y0 y1 y2 y3 X
    have hR := hr.out
    clear hr
    generalize expI tx x.f1 sx ⟨0, ⟨#[]⟩, ⟨#[]⟩, ⟨#[]⟩⟩ 16 = E at *
    obtain ⟨e1, e2, e3⟩ := E
    dsimp only at hR
    obtain ⟨⟨c0, c1, c2⟩, -⟩ := h4.out.st.cells
    dsimp only at c1 c2
    by_cases hE : e3 = 0
    · rw [if_pos hE] at hR
      subst hR
      have hE' : (e3 != 0) = false := by simp [hE]
      replace hE := Aside0.mk hE
      go_wp2
      go_ret3
      exact ⟨_, rfl, Kd.R_mono h4.out.st.own (fun _ _ => trivial), h4.out.st.bel⟩
    · rw [if_neg hE] at hR
      subst hR
      have hE' : (e3 != 0) = true := by simp [hE]
      replace hE := Aside0.mk hE
      go_wp2
      go_quiet (fail)
      go_wp2
      go_ret3
      exact ⟨_, rfl, Kd.R_nil _ _ _ _ _, by repeat (first | exact h4.out.st.bel | apply pw_below_drewN | apply below_drew1)⟩
end Go.Proofs.YtkpnfejfbmandaaDoor.Px

/- Kinds of instructions. -/
namespace Go.Proofs.YtkpnfejfbmandaaDoor.Px
open Go.RowKit Go.Proofs.YtkpnfejfbmandaaDoorW.PrintWords Go.Proofs.YtkpnfejfbmandaaDoorW.PrintLast Go.Proofs.YtkpnfejfbmandaaDoorW.PrintMore
set_option linter.unusedVariables false
set_option linter.unusedSimpArgs false
structure S40 where
  f0 : Int
  f1 : ByteArray
  f2 : ByteArray
  f3 : Bool
  f4 : Int
  f5 : Int
def z40 : S40 := ⟨(0 : Int), (⟨#[]⟩ : ByteArray), (⟨#[]⟩ : ByteArray), false, (0 : Int), (0 : Int)⟩
def k40 : Kd S40 := Kd.iso (Kd.pair (Kd.int .i64) (Kd.pair Kd.string (Kd.pair Kd.string (Kd.pair Kd.bool (Kd.pair (Kd.int .i64) (Kd.int .i64)))))) (fun x : S40 => (x.f0, x.f1, x.f2, x.f3, x.f4, x.f5))
theorem k40_open {w : World} {x : S40} {cs : List Value} (h : k40.K w x cs) : cs = [.int .i64 x.f0, .string x.f1, .string x.f2, .bool x.f3, .int .i64 x.f4, .int .i64 x.f5] := by
  obtain ⟨_, _, rfl, rfl, ⟨_, _, rfl, rfl, ⟨_, _, rfl, rfl, ⟨_, _, rfl, rfl, ⟨_, _, rfl, rfl, rfl⟩⟩⟩⟩⟩ := h
  exact rfl
theorem k40_openM {w : World} {base : Nat} {ok : Nat → Prop} {x : S40} {cs : List Value} (h : k40.M w base ok x cs) : cs = [.int .i64 x.f0, .string x.f1, .string x.f2, .bool x.f3, .int .i64 x.f4, .int .i64 x.f5] := by
  obtain ⟨_, _, rfl, rfl, ⟨_, _, rfl, rfl, ⟨_, _, rfl, rfl, ⟨_, _, rfl, rfl, ⟨_, _, rfl, rfl, rfl⟩⟩⟩⟩⟩ := h
  exact rfl
theorem k40_mk (w : World) (x : S40)  : k40.K w x [.int .i64 x.f0, .string x.f1, .string x.f2, .bool x.f3, .int .i64 x.f4, .int .i64 x.f5] := ⟨[.int .i64 x.f0], [.string x.f1, .string x.f2, .bool x.f3, .int .i64 x.f4, .int .i64 x.f5], rfl, rfl, ⟨[.string x.f1], [.string x.f2, .bool x.f3, .int .i64 x.f4, .int .i64 x.f5], rfl, rfl, ⟨[.string x.f2], [.bool x.f3, .int .i64 x.f4, .int .i64 x.f5], rfl, rfl, ⟨[.bool x.f3], [.int .i64 x.f4, .int .i64 x.f5], rfl, rfl, ⟨[.int .i64 x.f4], [.int .i64 x.f5], rfl, rfl, rfl⟩⟩⟩⟩⟩
theorem k40_mkM (w : World) (base : Nat) (ok : Nat → Prop) (x : S40)  : k40.M w base ok x [.int .i64 x.f0, .string x.f1, .string x.f2, .bool x.f3, .int .i64 x.f4, .int .i64 x.f5] := ⟨[.int .i64 x.f0], [.string x.f1, .string x.f2, .bool x.f3, .int .i64 x.f4, .int .i64 x.f5], rfl, rfl, ⟨[.string x.f1], [.string x.f2, .bool x.f3, .int .i64 x.f4, .int .i64 x.f5], rfl, rfl, ⟨[.string x.f2], [.bool x.f3, .int .i64 x.f4, .int .i64 x.f5], rfl, rfl, ⟨[.bool x.f3], [.int .i64 x.f4, .int .i64 x.f5], rfl, rfl, ⟨[.int .i64 x.f4], [.int .i64 x.f5], rfl, rfl, rfl⟩⟩⟩⟩⟩
def rd_T40 (xs : List S40) (i : Int) : S40 := xs.getD i.toNat z40
theorem at_T40 {w : World} {A : Option Addr} {n : Nat} {xs : List S40} (h : Kd.C k40 w A n xs) (i : Int) (h0 : 0 ≤ i) (h1 : i < n) : ∃ ad , A = some ad ∧ w.cell? (ad.add (i.toNat * 6)) = some (.int .i64 (rd_T40 xs i).f0) ∧ w.cell? ⟨(ad.add (i.toNat * 6)).block, (ad.add (i.toNat * 6)).off + 1, none⟩ = some (.string (rd_T40 xs i).f1) ∧ w.cell? ⟨(ad.add (i.toNat * 6)).block, (ad.add (i.toNat * 6)).off + 2, none⟩ = some (.string (rd_T40 xs i).f2) ∧ w.cell? ⟨(ad.add (i.toNat * 6)).block, (ad.add (i.toNat * 6)).off + 3, none⟩ = some (.bool (rd_T40 xs i).f3) ∧ w.cell? ⟨(ad.add (i.toNat * 6)).block, (ad.add (i.toNat * 6)).off + 4, none⟩ = some (.int .i64 (rd_T40 xs i).f4) ∧ w.cell? ⟨(ad.add (i.toNat * 6)).block, (ad.add (i.toNat * 6)).off + 5, none⟩ = some (.int .i64 (rd_T40 xs i).f5) := by
  obtain ⟨ad, c, e, _, hK, hc0⟩ := Kd.C_get h z40 i h0 h1
  have hc : ∀ j u, c[j]? = some u → w.cell? (ad.add (i.toNat * 6 + j)) = some u := hc0
  obtain rfl := k40_open hK
  exact ⟨ad, e, hc 0 _ rfl, by rw [← add_field _ _ 1 (by omega)]; exact hc 1 _ rfl, by rw [← add_field _ _ 2 (by omega)]; exact hc 2 _ rfl, by rw [← add_field _ _ 3 (by omega)]; exact hc 3 _ rfl, by rw [← add_field _ _ 4 (by omega)]; exact hc 4 _ rfl, by rw [← add_field _ _ 5 (by omega)]; exact hc 5 _ rfl⟩
end Go.Proofs.YtkpnfejfbmandaaDoor.Px

/- compile: what it generates; the compiler behind its pointer; emit. -/
namespace Go.Proofs.YtkpnfejfbmandaaDoor.Px
open Go.RowKit Go.Proofs.YtkpnfejfbmandaaDoorW.PrintWords Go.Proofs.YtkpnfejfbmandaaDoorW.PrintLast Go.Proofs.YtkpnfejfbmandaaDoorW.PrintMore
set_option linter.unusedVariables false
set_option linter.unusedSimpArgs false
/-- The code, the escapers that are left, the calls: index and name. -/
structure KS where
  code : List S40
  left : List Int
  calls : List (Int × ByteArray)
/-- The compiler in a world W: its struct at g; its own row of instructions; the escapers that are left, read from what was there in w0. -/
structure KIn (w0 : World) (g b1 b2 : Nat) (v : Value) (code : List S40) (A : Option Addr) (c : Nat) (left : List Int) (W : World) : Prop where
  blk : W.heap[g]? = some (.cells #[v, .map (some b1), .slice A left.length c, .map (some b2)] 122 (0, 0))
  own : Kd.R k40 40 W w0.heap.size (fun k => k ≠ g) v code
  lf : Kd.C (Kd.int .i64) w0 A left.length left
  le : left.length ≤ c
  bel : Below w0.heap.size w0 W
  ge : w0.heap.size ≤ g
/-- Everything but the struct, the row and the block mb is there as it was. -/
def Kp3 (w W : World) (g : Nat) (mb row : Option Nat) : Prop := w.heap.size ≤ W.heap.size ∧ ∀ k, k < w.heap.size → k ≠ g → some k ≠ mb → some k ≠ row → W.heap[k]? = w.heap[k]?
structure KOut (w0 w : World) (g b1 b2 : Nat) (mb : Option Nat) (v0 v : Value) (code : List S40) (A : Option Addr) (c : Nat) (left : List Int) (W : World) : Prop where
  st : KIn w0 g b1 b2 v code A c left W
  keep : Kp3 w W g mb v0.ownBlock
  row : v.ownBlock = v0.ownBlock ∨ v.ownBlock = none ∨ ∃ b, v.ownBlock = some b ∧ w.heap.size ≤ b
theorem Kp3.refl (w : World) (g : Nat) (mb row : Option Nat) : Kp3 w w g mb row := ⟨Nat.le_refl _, fun _ _ _ _ _ => rfl⟩
theorem Kp3.trans {w W W2 : World} {g : Nat} {mb row row1 : Option Nat} (h : Kp3 w W g mb row) (k : Kp3 W W2 g mb row1) (hr : row1 = row ∨ row1 = none ∨ ∃ b, row1 = some b ∧ w.heap.size ≤ b) : Kp3 w W2 g mb row :=
  ⟨Nat.le_trans h.1 k.1, fun i hi hg hb hi' => by
    refine (k.2 i (Nat.lt_of_lt_of_le hi h.1) hg hb ?_).trans (h.2 i hi hg hb hi')
    rcases hr with rfl | rfl | ⟨b, rfl, hb⟩
    · exact hi'
    · simp
    · simp; omega⟩
theorem Kp3.alloc (w : World) (g : Nat) (mb row : Option Nat) (o : Obj) : Kp3 w (w.alloc o) g mb row := ⟨by rw [World.size_alloc]; omega, fun i hi _ _ _ => Below.heap_alloc w o i hi⟩
theorem Kp3.grown {w W : World} {g : Nat} {mb row : Option Nat} (h : w.grownBy W row) : Kp3 w W g mb row := ⟨h.size, fun i hi _ _ hr => h.block i hi hr⟩
theorem Kp3.set {w W : World} {g : Nat} {mb row : Option Nat} (h : Kp3 w W g mb row) (j : Nat) (u : Value) : Kp3 w (W.setCell ⟨g, j, none⟩ u) g mb row :=
  ⟨by rw [World.size_setCell]; exact h.1, fun i hi hg hb hr => (Below.heap_setCell _ _ _ _ hg).trans (h.2 i hi hg hb hr)⟩
theorem KIn.alloc {w0 g b1 b2 v code A c left W} (h : KIn w0 g b1 b2 v code A c left W) (o : Obj) : KIn w0 g b1 b2 v code A c left (W.alloc o) := ⟨blk_alloc h.blk o, Kd.R_alloc h.own o, h.lf, h.le, h.bel.alloc h.bel.size o, h.ge⟩
theorem KIn.drew {w0 g b1 b2 v code A c left W} (h : KIn w0 g b1 b2 v code A c left W) : KIn w0 g b1 b2 v code A c left W.drew := ⟨h.blk, h.own, h.lf, h.le, h.bel.drew, h.ge⟩
theorem KIn.out {mb w0 g b1 b2 v code A c left W} (h : KIn w0 g b1 b2 v code A c left W) : KOut w0 W g b1 b2 mb v v code A c left W := ⟨h, Kp3.refl _ _ _ _, .inl rfl⟩
theorem KOut.alloc {w0 w g b1 b2 mb v0 v code A c left W} (h : KOut w0 w g b1 b2 mb v0 v code A c left W) (o : Obj) : KOut w0 w g b1 b2 mb v0 v code A c left (W.alloc o) := ⟨h.st.alloc o, h.keep.trans (Kp3.alloc W g mb none o) (.inr (.inl rfl)), h.row⟩
theorem KOut.drew {w0 w g b1 b2 mb v0 v code A c left W} (h : KOut w0 w g b1 b2 mb v0 v code A c left W) : KOut w0 w g b1 b2 mb v0 v code A c left W.drew := ⟨h.st.drew, h.keep, h.row⟩
theorem KOut.call {w0 w g b1 b2 mb v0 v1 v2 code A c left code2 A2 c2 left2 W W2} (h : KOut w0 w g b1 b2 mb v0 v1 code A c left W) (h2 : KOut w0 W g b1 b2 mb v1 v2 code2 A2 c2 left2 W2) : KOut w0 w g b1 b2 mb v0 v2 code2 A2 c2 left2 W2 :=
  ⟨h2.st, h.keep.trans h2.keep h.row, by
    rcases h2.row with e | e | ⟨b, e, hb⟩
    · rw [e]; exact h.row
    · exact .inr (.inl e)
    · exact .inr (.inr ⟨b, e, Nat.le_trans h.keep.1 hb⟩)⟩
theorem KOut.more {w0 w g b1 b2 v0 v code A c left W} (h : KOut w0 w g b1 b2 none v0 v code A c left W) (mb : Option Nat) : KOut w0 w g b1 b2 mb v0 v code A c left W := ⟨h.st, ⟨h.keep.1, fun i hi hg _ hr => h.keep.2 i hi hg (by simp) hr⟩, h.row⟩
theorem KOut.appended {w0 w g b1 b2 mb v0 v code A c left W p v1 w1} (h : KOut w0 w g b1 b2 mb v0 v code A c left W) (h1 : Kd.R k40 40 w1 w0.heap.size (fun k => k ≠ g) v1 (code ++ [p])) (hB : Below w0.heap.size w0 w1) (hg : W.grownBy w1 v.ownBlock)
    (hr : v1.ownBlock = v.ownBlock ∨ ∃ b, v1.ownBlock = some b ∧ W.heap.size ≤ b) : KOut w0 w g b1 b2 mb v0 v1 (code ++ [p]) A c left (w1.setCell ⟨g, 0, none⟩ v1) :=
  ⟨⟨blk_set (blk_grown h.st.blk hg (fun e => h.st.own.1 g e.symm rfl)) 0 v1, Kd.R_far h1 (fun _ h => h) _, h.st.lf, h.st.le, hB.setCell h.st.ge _, h.st.ge⟩, (h.keep.trans (Kp3.grown hg) h.row).set 0 _, by
    rcases hr with e | ⟨b, e, hb⟩
    · rw [e]; exact h.row
    · exact .inr (.inr ⟨b, e, Nat.le_trans h.keep.1 hb⟩)⟩
theorem info40 : (Tryd.prog.info? 40).map (fun i => (i.zero, i.size, i.bytes)) = some (some (.agg #[.int .i64 0, .string ⟨#[]⟩, .string ⟨#[]⟩, .bool false, .int .i64 0, .int .i64 0]), 6, 64) := by kernel_rfl
set_option maxHeartbeats 4000000 in
set_option maxRecDepth 100000 in
theorem emit_any {w0 g b1 b2 v code A c left} (x : S40) (w : World) (hS : KIn w0 g b1 b2 v code A c left w) (hl : code.length ≤ 1000000) :
    Calls Tryd.prog 59 #[.pointer (some ⟨g, 0, none⟩), .agg #[.int .i64 x.f0, .string x.f1, .string x.f2, .bool x.f3, .int .i64 x.f4, .int .i64 x.f5]] w fun e w' => e = .returned (.int .i64 code.length) ∧ ∃ v', KOut w0 w g b1 b2 none v v' (code ++ [x]) A c left w' := by
  have c0 : w.cell? ⟨g, 0, none⟩ = some v := blk_cell hS.blk 0
  have f0 := blk_frozen hS.blk 0
  have hlt := blk_lt hS.blk
  have hlen : (code.length + 1) * 64 ≤ 140737488355328 := by omega
  obtain ⟨W1, e1⟩ : ∃ W1, W1 = w.alloc (.cells #[.int .i64 x.f0, .string x.f1, .string x.f2, .bool x.f3, .int .i64 x.f4, .int .i64 x.f5] 40) := ⟨_, rfl⟩
  replace hS := Aside0.mk hS
  have hS1 := Aside0.mk (show KOut w0 w g b1 b2 none v v code A c left W1 from by rw [e1]; exact hS.out.out.alloc _)
  have hb1 := Aside0.mk (show W1.heap[w.heap.size]? = some (.cells #[.int .i64 x.f0, .string x.f1, .string x.f2, .bool x.f3, .int .i64 x.f4, .int .i64 x.f5] 40 (0, 0)) from by rw [e1]; exact blk_new _ _)
  replace c0 : W1.cell? ⟨g, 0, none⟩ = some v := blk_cell hS1.out.st.blk 0
  replace f0 := blk_frozen hS1.out.st.blk 0
  have n0 : W1.cell? ⟨w.heap.size, 0, none⟩ = some (.int .i64 x.f0) := blk_cell hb1.out 0
  have n1 : W1.cell? ⟨w.heap.size, 1, none⟩ = some (.string x.f1) := blk_cell hb1.out 1
  have n2 : W1.cell? ⟨w.heap.size, 2, none⟩ = some (.string x.f2) := blk_cell hb1.out 2
  have n3 : W1.cell? ⟨w.heap.size, 3, none⟩ = some (.bool x.f3) := blk_cell hb1.out 3
  have n4 : W1.cell? ⟨w.heap.size, 4, none⟩ = some (.int .i64 x.f4) := blk_cell hb1.out 4
  have n5 : W1.cell? ⟨w.heap.size, 5, none⟩ = some (.int .i64 x.f5) := blk_cell hb1.out 5
  have ltg : g < W1.heap.size := blk_lt hS1.out.st.blk
  have ltb : w.heap.size < W1.heap.size := blk_lt hb1.out
  go_enter Tryd.func59, Tryd.ntmps59
  go_upto_region 1 with fail
  rw [← e1]
  clear e1
  refine wp_region_held_drew (S := (fun w' => w'.cell? ⟨w.heap.size, 0, none⟩ = some (.int .i64 x.f0) ∧ w'.cell? ⟨w.heap.size, 1, none⟩ = some (.string x.f1) ∧ w'.cell? ⟨w.heap.size, 2, none⟩ = some (.string x.f2) ∧ w'.cell? ⟨w.heap.size, 3, none⟩ = some (.bool x.f3) ∧ w'.cell? ⟨w.heap.size, 4, none⟩ = some (.int .i64 x.f4) ∧ w'.cell? ⟨w.heap.size, 5, none⟩ = some (.int .i64 x.f5))) (by kernel_rfl) ⟨n0, n1, n2, n3, n4, n5⟩ (fun hHeld => ?_)
  refine wpAnyH_take (i := 0) (v := ?_) rfl (by kernel_rfl) (by kernel_rfl) (by kernel_rfl) (fun _ _ _ h => h) (Or.inl ⟨by rfl, ?_⟩) (by assumption) ?_
  rotate_left
  · intro w hSw; (try dsimp only at hSw); go_simp; try with_reducible rfl
  try simp only [Act.put, List.setIfInBounds_toArray, List.set_cons_zero, List.set_cons_succ]
  refine wpAnyH_take (i := 1) (v := ?_) rfl (by kernel_rfl) (by kernel_rfl) (by kernel_rfl) (fun _ _ _ h => h) (Or.inl ⟨by rfl, ?_⟩) (by assumption) ?_
  rotate_left
  · intro w hSw; (try dsimp only at hSw); go_simp; try with_reducible rfl
  try simp only [Act.put, List.setIfInBounds_toArray, List.set_cons_zero, List.set_cons_succ]
  refine wpAnyH_take (i := 2) (v := ?_) rfl (by kernel_rfl) (by kernel_rfl) (by kernel_rfl) (fun _ _ _ h => h) (Or.inl ⟨by rfl, ?_⟩) (by assumption) ?_
  rotate_left
  · intro w hSw; (try dsimp only at hSw); go_simp; try with_reducible rfl
  try simp only [Act.put, List.setIfInBounds_toArray, List.set_cons_zero, List.set_cons_succ]
  refine wpAnyH_take (i := 3) (v := ?_) rfl (by kernel_rfl) (by kernel_rfl) (by kernel_rfl) (fun _ _ _ h => h) (Or.inl ⟨by rfl, ?_⟩) (by assumption) ?_
  rotate_left
  · intro w hSw; (try dsimp only at hSw); go_simp; try with_reducible rfl
  try simp only [Act.put, List.setIfInBounds_toArray, List.set_cons_zero, List.set_cons_succ]
  refine wpAnyH_take (i := 5) (v := ?_) rfl (by kernel_rfl) (by kernel_rfl) (by kernel_rfl) (fun _ _ _ h => h) (Or.inl ⟨by rfl, ?_⟩) (by assumption) ?_
  rotate_left
  · intro w hSw; (try dsimp only at hSw); go_simp; try with_reducible rfl
  try simp only [Act.put, List.setIfInBounds_toArray, List.set_cons_zero, List.set_cons_succ]
  refine wpAnyH_ready (rs := [4, 6]) (by kernel_rfl) (by simp) ?_
  refine AllReadyH.cons (o := _) rfl (fun K hK => ?_) ?_
  · go_simp
    refine hK.out _ _ (by exact ⟨n0, n1, n2, n3, n4, n5⟩) (fun hHeld => ?_)
    clear hK K
    try simp only [Act.put, List.setIfInBounds_toArray, List.set_cons_zero, List.set_cons_succ]
    refine wpAnyH_ready (rs := [6]) (by kernel_rfl) (by simp) ?_
    refine AllReadyH.cons (o := _) rfl (fun K hK => ?_) ?_
    · go_simp
      refine hK.out _ _ (by go_keep) (fun hHeld => ?_)
      clear hK K
      try simp only [Act.put, List.setIfInBounds_toArray, List.set_cons_zero, List.set_cons_succ]
      refine wpAnyH_ready (rs := [7]) (by kernel_rfl) (by simp) ?_
      refine AllReadyH.cons (o := _) rfl (fun K hK => ?_) ?_
      · rw [show ∀ o, (W1.alloc o).drew = W1.drew.alloc o from fun _ => rfl]; refine Kd.R_append_step k40 w0.heap.size (by simp [Region.wanted]) (.tmp 9) (.tmp 11) 30 40 (.agg #[.int .i64 0, .string ⟨#[]⟩, .string ⟨#[]⟩, .bool false, .int .i64 0, .int .i64 0]) 64 rfl Tryd.underlying30 info40 rfl (by decide) (by decide) v code x [.int .i64 x.f0, .string x.f1, .string x.f2, .bool x.f3, .int .i64 x.f4, .int .i64 x.f5] (fun k => k ≠ g) (fun k => k ≠ g ∧ some k ≠ v.ownBlock) rfl rfl (k40_mkM _ _ _ x) (fun k hk => hk) (fun k hk e => Nat.lt_irrefl g (Nat.lt_of_lt_of_le ltg (e ▸ hk))) hS1.out.drew.st.own hS1.out.drew.st.bel hS1.out.drew.st.bel.size hlen ?_; intro v1 w3 h1 hB1 hg1 hr1; obtain ⟨A1, c1', rfl⟩ := Kd.R_slice h1; have hX := Aside0.mk (hS1.out.drew.appended h1 hB1 hg1 hr1); simp only [List.length_append, List.length_cons, List.length_nil, Nat.zero_add] at hX; have hbg := blk_grown hS1.out.drew.st.blk hg1 (fun e => (hS1.out.drew.st.own.1 g e.symm) rfl); have hbb := blk_grown (w := W1.drew) (g := w.heap.size) hb1.out hg1 (fun e => Nat.lt_irrefl _ (own_lt (Kd.R_own hS.out.own).choose_spec _ e.symm)); clear c0 f0 n0 n1 n2 n3 n4 n5 h1 hB1 hg1 hr1; have c0 := blk_cell hbg 0; have f0 := blk_frozen hbg 0; have n0 : w3.cell? ⟨w.heap.size, 0, none⟩ = some (.int .i64 x.f0) := blk_cell hbb 0; have n1 : w3.cell? ⟨w.heap.size, 1, none⟩ = some (.string x.f1) := blk_cell hbb 1; have n2 : w3.cell? ⟨w.heap.size, 2, none⟩ = some (.string x.f2) := blk_cell hbb 2; have n3 : w3.cell? ⟨w.heap.size, 3, none⟩ = some (.bool x.f3) := blk_cell hbb 3; have n4 : w3.cell? ⟨w.heap.size, 4, none⟩ = some (.int .i64 x.f4) := blk_cell hbb 4; have n5 : w3.cell? ⟨w.heap.size, 5, none⟩ = some (.int .i64 x.f5) := blk_cell hbb 5
        refine hK.out _ _ (by exact ⟨n0, n1, n2, n3, n4, n5⟩) (fun hHeld => ?_)
        clear hK K
        try simp only [Act.put, List.setIfInBounds_toArray, List.set_cons_zero, List.set_cons_succ]
        refine wpAnyH_take (i := 8) (v := ?_) rfl (by kernel_rfl) (by kernel_rfl) (by kernel_rfl) (fun _ _ _ h => h) (Or.inl ⟨by rfl, ?_⟩) (by assumption) ?_
        rotate_left
        · intro w hSw; (try dsimp only at hSw); go_simp; try with_reducible rfl
        try simp only [Act.put, List.setIfInBounds_toArray, List.set_cons_zero, List.set_cons_succ]
        refine wpAnyH_take (i := 9) (v := ?_) rfl (by kernel_rfl) (by kernel_rfl) (by kernel_rfl) (fun _ _ _ h => h) (Or.inl ⟨by rfl, ?_⟩) (by assumption) ?_
        rotate_left
        · intro w hSw; (try dsimp only at hSw); go_simp; try with_reducible rfl
        try simp only [Act.put, List.setIfInBounds_toArray, List.set_cons_zero, List.set_cons_succ]
        refine wpAnyH_ready (rs := [10]) (by kernel_rfl) (by simp) ?_
        refine AllReadyH.cons (o := _) rfl (fun K hK => ?_) ?_
        · go_simp
          refine hK.out _ _ (by exact ⟨blk_cell ((Below.heap_setCell _ ⟨g, 0, none⟩ _ _ (Nat.ne_of_gt hlt)).trans hbb) 0, blk_cell ((Below.heap_setCell _ ⟨g, 0, none⟩ _ _ (Nat.ne_of_gt hlt)).trans hbb) 1, blk_cell ((Below.heap_setCell _ ⟨g, 0, none⟩ _ _ (Nat.ne_of_gt hlt)).trans hbb) 2, blk_cell ((Below.heap_setCell _ ⟨g, 0, none⟩ _ _ (Nat.ne_of_gt hlt)).trans hbb) 3, blk_cell ((Below.heap_setCell _ ⟨g, 0, none⟩ _ _ (Nat.ne_of_gt hlt)).trans hbb) 4, blk_cell ((Below.heap_setCell _ ⟨g, 0, none⟩ _ _ (Nat.ne_of_gt hlt)).trans hbb) 5⟩) (fun hHeld => ?_)
          clear hK K
          try simp only [Act.put, List.setIfInBounds_toArray, List.set_cons_zero, List.set_cons_succ]
          refine wpAnyH_done (by kernel_rfl) ?_ _
          clear c0 f0 n0 n1 n2 n3 n4 n5
          have c0 := blk_cell hX.out.st.blk 0
          have f0 := blk_frozen hX.out.st.blk 0
          have hm : IntKind.i64.wrap (((code.length + 1 : Nat) : Int) - 1) = (code.length : Int) := by rw [IntKind.wrap_i64]; omega
          go_wp2_with fail
          go_ret
          exact ⟨rfl, _, hX.out⟩
        exact AllReadyH.nil
      exact AllReadyH.nil
    exact AllReadyH.nil
  refine AllReadyH.cons (o := _) rfl (fun K hK => ?_) ?_
  · go_simp
    refine hK.out _ _ (by go_keep) (fun hHeld => ?_)
    clear hK K
    try simp only [Act.put, List.setIfInBounds_toArray, List.set_cons_zero, List.set_cons_succ]
    refine wpAnyH_ready (rs := [4]) (by kernel_rfl) (by simp) ?_
    refine AllReadyH.cons (o := _) rfl (fun K hK => ?_) ?_
    · go_simp
      refine hK.out _ _ (by first | exact hHeld | go_keep) (fun hHeld => ?_)
      clear hK K
      try simp only [Act.put, List.setIfInBounds_toArray, List.set_cons_zero, List.set_cons_succ]
      refine wpAnyH_ready (rs := [7]) (by kernel_rfl) (by simp) ?_
      refine AllReadyH.cons (o := _) rfl (fun K hK => ?_) ?_
      · rw [show ∀ o, (W1.alloc o).drew = W1.drew.alloc o from fun _ => rfl]; refine Kd.R_append_step k40 w0.heap.size (by simp [Region.wanted]) (.tmp 9) (.tmp 11) 30 40 (.agg #[.int .i64 0, .string ⟨#[]⟩, .string ⟨#[]⟩, .bool false, .int .i64 0, .int .i64 0]) 64 rfl Tryd.underlying30 info40 rfl (by decide) (by decide) v code x [.int .i64 x.f0, .string x.f1, .string x.f2, .bool x.f3, .int .i64 x.f4, .int .i64 x.f5] (fun k => k ≠ g) (fun k => k ≠ g ∧ some k ≠ v.ownBlock) rfl rfl (k40_mkM _ _ _ x) (fun k hk => hk) (fun k hk e => Nat.lt_irrefl g (Nat.lt_of_lt_of_le ltg (e ▸ hk))) hS1.out.drew.st.own hS1.out.drew.st.bel hS1.out.drew.st.bel.size hlen ?_; intro v1 w3 h1 hB1 hg1 hr1; obtain ⟨A1, c1', rfl⟩ := Kd.R_slice h1; have hX := Aside0.mk (hS1.out.drew.appended h1 hB1 hg1 hr1); simp only [List.length_append, List.length_cons, List.length_nil, Nat.zero_add] at hX; have hbg := blk_grown hS1.out.drew.st.blk hg1 (fun e => (hS1.out.drew.st.own.1 g e.symm) rfl); have hbb := blk_grown (w := W1.drew) (g := w.heap.size) hb1.out hg1 (fun e => Nat.lt_irrefl _ (own_lt (Kd.R_own hS.out.own).choose_spec _ e.symm)); clear c0 f0 n0 n1 n2 n3 n4 n5 h1 hB1 hg1 hr1; have c0 := blk_cell hbg 0; have f0 := blk_frozen hbg 0; have n0 : w3.cell? ⟨w.heap.size, 0, none⟩ = some (.int .i64 x.f0) := blk_cell hbb 0; have n1 : w3.cell? ⟨w.heap.size, 1, none⟩ = some (.string x.f1) := blk_cell hbb 1; have n2 : w3.cell? ⟨w.heap.size, 2, none⟩ = some (.string x.f2) := blk_cell hbb 2; have n3 : w3.cell? ⟨w.heap.size, 3, none⟩ = some (.bool x.f3) := blk_cell hbb 3; have n4 : w3.cell? ⟨w.heap.size, 4, none⟩ = some (.int .i64 x.f4) := blk_cell hbb 4; have n5 : w3.cell? ⟨w.heap.size, 5, none⟩ = some (.int .i64 x.f5) := blk_cell hbb 5
        refine hK.out _ _ (by exact ⟨n0, n1, n2, n3, n4, n5⟩) (fun hHeld => ?_)
        clear hK K
        try simp only [Act.put, List.setIfInBounds_toArray, List.set_cons_zero, List.set_cons_succ]
        refine wpAnyH_take (i := 8) (v := ?_) rfl (by kernel_rfl) (by kernel_rfl) (by kernel_rfl) (fun _ _ _ h => h) (Or.inl ⟨by rfl, ?_⟩) (by assumption) ?_
        rotate_left
        · intro w hSw; (try dsimp only at hSw); go_simp; try with_reducible rfl
        try simp only [Act.put, List.setIfInBounds_toArray, List.set_cons_zero, List.set_cons_succ]
        refine wpAnyH_take (i := 9) (v := ?_) rfl (by kernel_rfl) (by kernel_rfl) (by kernel_rfl) (fun _ _ _ h => h) (Or.inl ⟨by rfl, ?_⟩) (by assumption) ?_
        rotate_left
        · intro w hSw; (try dsimp only at hSw); go_simp; try with_reducible rfl
        try simp only [Act.put, List.setIfInBounds_toArray, List.set_cons_zero, List.set_cons_succ]
        refine wpAnyH_ready (rs := [10]) (by kernel_rfl) (by simp) ?_
        refine AllReadyH.cons (o := _) rfl (fun K hK => ?_) ?_
        · go_simp
          refine hK.out _ _ (by exact ⟨blk_cell ((Below.heap_setCell _ ⟨g, 0, none⟩ _ _ (Nat.ne_of_gt hlt)).trans hbb) 0, blk_cell ((Below.heap_setCell _ ⟨g, 0, none⟩ _ _ (Nat.ne_of_gt hlt)).trans hbb) 1, blk_cell ((Below.heap_setCell _ ⟨g, 0, none⟩ _ _ (Nat.ne_of_gt hlt)).trans hbb) 2, blk_cell ((Below.heap_setCell _ ⟨g, 0, none⟩ _ _ (Nat.ne_of_gt hlt)).trans hbb) 3, blk_cell ((Below.heap_setCell _ ⟨g, 0, none⟩ _ _ (Nat.ne_of_gt hlt)).trans hbb) 4, blk_cell ((Below.heap_setCell _ ⟨g, 0, none⟩ _ _ (Nat.ne_of_gt hlt)).trans hbb) 5⟩) (fun hHeld => ?_)
          clear hK K
          try simp only [Act.put, List.setIfInBounds_toArray, List.set_cons_zero, List.set_cons_succ]
          refine wpAnyH_done (by kernel_rfl) ?_ _
          clear c0 f0 n0 n1 n2 n3 n4 n5
          have c0 := blk_cell hX.out.st.blk 0
          have f0 := blk_frozen hX.out.st.blk 0
          have hm : IntKind.i64.wrap (((code.length + 1 : Nat) : Int) - 1) = (code.length : Int) := by rw [IntKind.wrap_i64]; omega
          go_wp2_with fail
          go_ret
          exact ⟨rfl, _, hX.out⟩
        exact AllReadyH.nil
      exact AllReadyH.nil
    exact AllReadyH.nil
  exact AllReadyH.nil
end Go.Proofs.YtkpnfejfbmandaaDoor.Px

/- compile: land; what the compiler generates. -/
namespace Go.Proofs.YtkpnfejfbmandaaDoor.Px
open Go.RowKit Go.Proofs.YtkpnfejfbmandaaDoorW.PrintWords Go.Proofs.YtkpnfejfbmandaaDoorW.PrintLast Go.Proofs.YtkpnfejfbmandaaDoorW.PrintMore
set_option linter.unusedVariables false
set_option linter.unusedSimpArgs false
def setTo (l : List S40) (i : Nat) (q : Int) : List S40 := l.modify i (fun x => { x with f5 := q })
theorem setTo_length (l : List S40) (i : Nat) (q : Int) : (setTo l i q).length = l.length := by simp [setTo]
/-- Element i's field 5 is stored anew in a row of one's own. -/
theorem k40_put5 {W : World} {base : Nat} {ok : Nat → Prop} {v : Value} {xs : List S40} (h : Kd.R k40 40 W base ok v xs) (i : Nat) (hi : i < xs.length) (q : Int) :
    ∃ g c, v = .slice (some ⟨g, 0, none⟩) xs.length c ∧ ok g ∧ W.frozen? ⟨g, i * 6 + 5, none⟩ = false ∧ (∃ u, W.cell? ⟨g, i * 6 + 5, none⟩ = some u) ∧
      Kd.R k40 40 (W.setCell ⟨g, i * 6 + 5, none⟩ (.int .i64 q)) base ok v (setTo xs i q) ∧ W.grownBy (W.setCell ⟨g, i * 6 + 5, none⟩ (.int .i64 q)) (some g) := by
  obtain ⟨h0, inner, hown, hr⟩ := h
  have hown0 := hown
  rcases hown.2 with ⟨_, h2⟩ | ⟨g, c, cur, hv, hb, hg, hnc, hcm, hcs, htake⟩
  · omega
  subst hv
  have hs := hown.stored (i * 6 + 5) (.int .i64 q)
  have hsz : i * 6 + 5 < cur.size := by
    have : k40.sz = 6 := rfl
    rw [hcs, this]; omega
  refine ⟨g, c, rfl, h0 g rfl, blk_frozen hg _, ⟨cur[i * 6 + 5], (blk_cell hg _).trans (Array.getElem?_eq_getElem hsz)⟩, ⟨h0, inner.set (i * 6 + 5) (.int .i64 q), by rw [setTo_length]; exact hs.1, ?_⟩, hs.2⟩
  refine ⟨by rw [List.length_set, setTo_length]; exact hr.1, fun j p hj => ?_⟩
  have hj' : xs[j]?.map (fun x => if i = j then { x with f5 := q } else x) = some p := by
    rw [← hj]; simp [setTo, List.getElem?_modify]
  obtain ⟨x, hx, rfl⟩ := Option.map_eq_some_iff.1 hj'
  have hM := hr.2 j x hx
  have hx1 := (List.getElem?_eq_some_iff.1 hx).1
  have hil : inner.length = xs.length * 6 := hr.1
  by_cases hij : i = j
  · subst hij
    rw [if_pos rfl]
    have e6 : ((inner.set (i * 6 + 5) (.int .i64 q)).drop (i * k40.sz)).take k40.sz = [.int .i64 x.f0, .string x.f1, .string x.f2, .bool x.f3, .int .i64 x.f4, .int .i64 q] := by
      show ((inner.set (i * 6 + 5) (.int .i64 q)).drop (i * 6)).take 6 = _
      have hM6 := k40_openM hM
      rw [show k40.sz = 6 from rfl] at hM6
      rw [List.drop_set, if_neg (by omega), show i * 6 + 5 - i * 6 = 5 from by omega, List.take_set, hM6]
      rfl
    rw [e6]
    exact k40_mkM _ _ _ { x with f5 := q }
  · rw [if_neg hij]
    have e6 : ((inner.set (i * 6 + 5) (.int .i64 q)).drop (j * k40.sz)).take k40.sz = (inner.drop (j * k40.sz)).take k40.sz := by
      show ((inner.set (i * 6 + 5) (.int .i64 q)).drop (j * 6)).take 6 = (inner.drop (j * 6)).take 6
      apply List.ext_getElem?
      intro k
      rw [List.getElem?_take, List.getElem?_take]
      split
      · rw [List.getElem?_drop, List.getElem?_drop, List.getElem?_set, if_neg (by omega)]
      · rfl
    rw [e6, k40_openM hM]
    exact k40_mkM _ _ _ x
theorem KOut.landed {w0 w g b1 b2 mb v0 v code A c left W} (h : KOut w0 w g b1 b2 mb v0 v code A c left W) {gr : Nat} {p : Addr} {u : Value} {code2 : List S40} (hv : v.ownBlock = some gr) (hp : p.block = gr) (h1 : Kd.R k40 40 (W.setCell p u) w0.heap.size (fun k => k ≠ g) v code2) (hg : W.grownBy (W.setCell p u) (some gr)) : KOut w0 w g b1 b2 mb v0 v code2 A c left (W.setCell p u) :=
  ⟨⟨blk_grown h.st.blk hg (fun e => h.st.own.1 g (by rw [hv, ← e]) rfl), h1, h.st.lf, h.st.le, h.st.bel.setCell (by rw [hp]; exact (own_base (Kd.R_own h.st.own).choose_spec gr hv)) _, h.st.ge⟩, h.keep.trans (Kp3.grown (by rw [hv]; exact hg)) h.row, h.row⟩
set_option maxHeartbeats 4000000 in
set_option maxRecDepth 100000 in
theorem land_any {w0 g b1 b2 v code A c left} (i : Nat) (hi : i < code.length) (w : World) (hS : KIn w0 g b1 b2 v code A c left w) :
    Calls Tryd.prog 93 #[.pointer (some ⟨g, 0, none⟩), .int .i64 i] w fun e w' => e = .returned (.tuple #[]) ∧ KOut w0 w g b1 b2 none v v (setTo code i code.length) A c left w' := by
  obtain ⟨gr, cr, rfl, hgr, hfr, ⟨u, hcu⟩, hR, hG⟩ := k40_put5 hS.own i hi code.length
  have c0 : w.cell? ⟨g, 0, none⟩ = some (.slice (some ⟨gr, 0, none⟩) code.length cr) := blk_cell hS.blk 0
  have f0 := blk_frozen hS.blk 0
  have hlt := blk_lt hS.blk
  have hi0 : (0 : Int) ≤ (i : Int) := Int.natCast_nonneg i
  have hi1 : (i : Int) < (code.length : Int) := by omega
  have hD := Aside0.mk (hS.out (mb := none)).drew
  replace hR := Aside0.mk hR
  replace hG := Aside0.mk hG
  replace hS := Aside0.mk hS
  go_enter Tryd.func93, Tryd.ntmps93
  go_region_held3 (fun w' => w'.cell? ⟨g, 0, none⟩ = some (.slice (some ⟨gr, 0, none⟩) code.length cr)) (first | exact c0 | exact (cell_far (fun e => hgr e.symm) _).trans c0 | go_keep) (fail)
  all_goals exact Go.Great.bodyPost_end0 rfl rfl ⟨rfl, (hS.out.out.landed (gr := gr) (p := ⟨gr, i * 6 + 5, none⟩) rfl rfl hR.out hG.out).drew⟩
end Go.Proofs.YtkpnfejfbmandaaDoor.Px

/- compile: what the compiler generates for the nodes; contracts; text and the kinds that generate nothing. -/
namespace Go.Proofs.YtkpnfejfbmandaaDoor.Px
open Go.RowKit Go.Proofs.YtkpnfejfbmandaaDoorW.PrintWords Go.Proofs.YtkpnfejfbmandaaDoorW.PrintLast Go.Proofs.YtkpnfejfbmandaaDoorW.PrintMore
open Go.Maps Go.ChangeMaps Go.MapKept
set_option linter.unusedVariables false
set_option linter.unusedSimpArgs false
abbrev e0 : ByteArray := ⟨#[]⟩
def KS.emit (st : KS) (x : S40) : KS := ⟨st.code ++ [x], st.left, st.calls⟩
def KS.land (st : KS) (i : Nat) : KS := ⟨setTo st.code i st.code.length, st.left, st.calls⟩
mutual
def gL : List S78 → KS → KS
  | [], st => st
  | x :: xs, st => gL xs (gN x st)
def gN : S78 → KS → KS
  | ⟨k, _, S, nm, f4, f5, b, l⟩, st =>
    if k = 0 then st.emit ⟨0, S, e0, false, 0, 0⟩
    else if k = 1 then ⟨st.code ++ [⟨1, e0, nm, false, rdOf 0 st.left 0, 0⟩], st.left.drop 1, st.calls⟩
    else if k = 2 then
      (if f5 then (((gL l (((gL b (st.emit ⟨2, e0, nm, false, 0, 0⟩)).emit ⟨3, e0, e0, false, 0, 0⟩).land st.code.length)).land (gL b (st.emit ⟨2, e0, nm, false, 0, 0⟩)).code.length))
      else (gL b (st.emit ⟨2, e0, nm, false, 0, 0⟩)).land st.code.length)
    else if k = 3 then ((gL b (st.emit ⟨4, e0, nm, false, 0, 0⟩)).emit ⟨5, e0, e0, false, 0, (st.code.length : Int) + 1⟩).land st.code.length
    else if k = 4 then ⟨st.code ++ [⟨6, e0, nm, f4, 0, 0⟩], st.left, st.calls ++ [((st.code.length : Int), S)]⟩
    else if k = 5 then st.emit ⟨8, e0, e0, false, 0, 0⟩
    else st
end
theorem gN_at (x : S78) (st : KS) : gN x st =
    if x.f0 = 0 then st.emit ⟨0, x.f2, e0, false, 0, 0⟩
    else if x.f0 = 1 then ⟨st.code ++ [⟨1, e0, x.f3, false, rdOf 0 st.left 0, 0⟩], st.left.drop 1, st.calls⟩
    else if x.f0 = 2 then
      (if x.f5 then (((gL x.f7 (((gL x.f6 (st.emit ⟨2, e0, x.f3, false, 0, 0⟩)).emit ⟨3, e0, e0, false, 0, 0⟩).land st.code.length)).land (gL x.f6 (st.emit ⟨2, e0, x.f3, false, 0, 0⟩)).code.length))
      else (gL x.f6 (st.emit ⟨2, e0, x.f3, false, 0, 0⟩)).land st.code.length)
    else if x.f0 = 3 then ((gL x.f6 (st.emit ⟨4, e0, x.f3, false, 0, 0⟩)).emit ⟨5, e0, e0, false, 0, (st.code.length : Int) + 1⟩).land st.code.length
    else if x.f0 = 4 then ⟨st.code ++ [⟨6, e0, x.f3, x.f4, 0, 0⟩], st.left, st.calls ++ [((st.code.length : Int), x.f2)]⟩
    else if x.f0 = 5 then st.emit ⟨8, e0, e0, false, 0, 0⟩
    else st := by cases x; rw [gN]
mutual
/-- How many escapers the nodes take. -/
def eL : List S78 → Nat
  | [] => 0
  | x :: xs => eN x + eL xs
def eN : S78 → Nat
  | ⟨k, _, _, _, _, f5, b, l⟩ => if k = 1 then 1 else if k = 2 then eL b + (if f5 then eL l else 0) else if k = 3 then eL b else 0
end
mutual
theorem gL_left : ∀ (l : List S78) (st : KS), (gL l st).left = st.left.drop (eL l)
  | [], st => by simp [gL, eL]
  | x :: xs, st => by rw [gL, gL_left xs, gN_left x, List.drop_drop, eL]
theorem gN_left : ∀ (x : S78) (st : KS), (gN x st).left = st.left.drop (eN x)
  | ⟨k, at_, S, nm, f4, f5, b, l⟩, st => by
    rw [gN, eN]
    by_cases h0 : k = 0
    · simp [h0, KS.emit]
    by_cases h1 : k = 1
    · simp [h1]
    by_cases h2 : k = 2
    · cases f5 <;> simp [h2, KS.emit, KS.land, gL_left b, gL_left l]
    by_cases h3 : k = 3
    · simp [h3, KS.emit, KS.land, gL_left b]
    by_cases h4 : k = 4
    · simp [h4]
    by_cases h5 : k = 5
    · simp [h5, KS.emit]
    simp [h0, h1, h2, h3, h4, h5]
end
mutual
theorem gL_len : ∀ (l : List S78) (st : KS), st.code.length ≤ (gL l st).code.length ∧ (gL l st).code.length ≤ st.code.length + 2 * nL l
  | [], st => by simp [gL, nL]
  | x :: xs, st => by
    have h1 := gN_len x st
    have h2 := gL_len xs (gN x st)
    rw [gL, nL_cons]; omega
theorem gN_len : ∀ (x : S78) (st : KS), st.code.length ≤ (gN x st).code.length ∧ (gN x st).code.length ≤ st.code.length + 2 * nN x
  | ⟨k, at_, S, nm, f4, f5, b, l⟩, st => by
    rw [gN, nN_eq]
    by_cases h0 : k = 0
    · simp [h0, KS.emit]; omega
    by_cases h1 : k = 1
    · simp [h1]; omega
    by_cases h2 : k = 2
    · have hb := gL_len b (st.emit ⟨2, e0, nm, false, 0, 0⟩)
      cases f5
      · simp only [h2, KS.emit, KS.land, setTo_length, List.length_append, List.length_singleton, if_true, if_false, Bool.false_eq_true, show ((2 : Int) = 0) = False by decide, show ((2 : Int) = 1) = False by decide] at hb ⊢; omega
      · have hl := gL_len l (((gL b (st.emit ⟨2, e0, nm, false, 0, 0⟩)).emit ⟨3, e0, e0, false, 0, 0⟩).land st.code.length)
        simp only [h2, KS.emit, KS.land, setTo_length, List.length_append, List.length_singleton, if_true, if_false, show ((2 : Int) = 0) = False by decide, show ((2 : Int) = 1) = False by decide] at hb hl ⊢; omega
    by_cases h3 : k = 3
    · have hb := gL_len b (st.emit ⟨4, e0, nm, false, 0, 0⟩)
      simp only [h3, KS.emit, KS.land, setTo_length, List.length_append, List.length_singleton, if_true, if_false, show ((3 : Int) = 0) = False by decide, show ((3 : Int) = 1) = False by decide, show ((3 : Int) = 2) = False by decide] at hb ⊢; omega
    by_cases h4 : k = 4
    · simp [h4]; omega
    by_cases h5 : k = 5
    · simp [h5, KS.emit]; omega
    simp [h0, h1, h2, h3, h4, h5]
end
theorem law3 : Keyed Tryd.prog 3 := Maps.int_keyed Tryd.underlying3
/-- The calls as a map's data. -/
def mpD (l : List (Int × ByteArray)) : DataW Unit := l.foldl (fun D p => D.put (.int .i64 p.1) (.lit (.string p.2.data.toList))) (.map [])
/-- Block b is the map of the calls. -/
def MpC (w : World) (b : Nat) (l : List (Int × ByteArray)) : Prop := w.ownsMap Tryd.prog 3 (plainElem Tryd.prog 9) b l.length (mpD l)
theorem MpC.at_ {w b l} (h : MpC w b l) : ∃ es clock, w.heap[b]? = some (.map es clock) := by
  obtain ⟨es, clock, h1, -⟩ := h
  exact ⟨es, clock, h1⟩
theorem MpC.move {w w1 b l} (h : MpC w b l) (hb : w1.heap[b]? = w.heap[b]?) : MpC w1 b l := by
  obtain ⟨es, clock, h1, h2, h3, h4⟩ := h
  exact ⟨es, clock, hb.trans h1, h2, h3, h4⟩
theorem MpC.lt {w b l} (h : MpC w b l) : b < w.heap.size := by
  obtain ⟨es, clock, h1⟩ := h.at_
  exact (Array.getElem?_eq_some_iff.1 h1).1
theorem MpC.alloc {w b l} (h : MpC w b l) (o : Obj) : MpC (w.alloc o) b l := h.move (Below.heap_alloc w o b h.lt)
theorem MpC.drew {w b l} (h : MpC w b l) : MpC w.drew b l := h.move rfl
theorem MpC.ne_g {w b l w0 g b1 b2 v code A c left} (h : MpC w b l) (hS : KIn w0 g b1 b2 v code A c left w) : b ≠ g := by
  rintro rfl
  obtain ⟨es, clock, h1⟩ := h.at_
  rw [hS.blk] at h1
  cases h1
theorem MpC.ne_row {w b l w0 g b1 b2 v code A c left} (h : MpC w b l) (hS : KIn w0 g b1 b2 v code A c left w) : some b ≠ v.ownBlock := by
  intro e
  obtain ⟨es, clock, h1⟩ := h.at_
  obtain ⟨_, inner, ho, _⟩ := hS.own
  rcases ho.2 with ⟨rfl, _⟩ | ⟨g', cap, cur, rfl, _, hh, _⟩
  · cases e
  · obtain rfl : b = g' := by simpa [Value.ownBlock] using e
    rw [hh] at h1
    cases h1
theorem MpC.kept {w b l w0 g b1 b2 v v2 code A c left code2 A2 c2 left2 W} (h : MpC w b l) (hS : KIn w0 g b1 b2 v code A c left w) (hO : KOut w0 w g b1 b2 none v v2 code2 A2 c2 left2 W) : MpC W b l :=
  h.move (hO.keep.2 b h.lt (h.ne_g hS) (by simp) (h.ne_row hS))
/-- The contract of a node. -/
abbrev gNode.Con (x : S78) : Prop := ∀ (w0 : World) (g b1 b2 : Nat) (v : Value) (st : KS) (A A6 A7 : Option Addr) (c c6 c7 : Nat) (w : World), KIn w0 g b1 b2 v st.code A c st.left w → MpC w b2 st.calls → w0.heap.size ≤ b2 → Kd.C k78 w0 A6 x.f6.length x.f6 → x.f6.length ≤ c6 → Kd.C k78 w0 A7 x.f7.length x.f7 → x.f7.length ≤ c7 → smN x → eN x ≤ st.left.length → st.calls.length + nN x ≤ 1000000 → st.code.length + 2 * nN x ≤ 1000000 →
  Calls Tryd.prog 80 #[.pointer (some ⟨g, 0, none⟩), .agg #[.int .i64 x.f0, .int .i64 x.f1, .string x.f2, .string x.f3, .bool x.f4, .bool x.f5, .slice A6 x.f6.length c6, .slice A7 x.f7.length c7]] w fun e w' =>
    e = .returned (.tuple #[]) ∧ ∃ v' A' c', KOut w0 w g b1 b2 (some b2) v v' (gN x st).code A' c' (gN x st).left w' ∧ MpC w' b2 (gN x st).calls
abbrev gList.Con (l : List S78) : Prop := ∀ (w0 : World) (g b1 b2 : Nat) (v : Value) (st : KS) (A B : Option Addr) (c cb : Nat) (w : World), KIn w0 g b1 b2 v st.code A c st.left w → MpC w b2 st.calls → w0.heap.size ≤ b2 → Kd.C k78 w0 B l.length l → l.length ≤ cb → smL l → eL l ≤ st.left.length → st.calls.length + nL l ≤ 1000000 → st.code.length + 2 * nL l ≤ 1000000 →
  Calls Tryd.prog 58 #[.pointer (some ⟨g, 0, none⟩), .slice B l.length cb] w fun e w' =>
    e = .returned (.tuple #[]) ∧ ∃ v' A' c', KOut w0 w g b1 b2 (some b2) v v' (gL l st).code A' c' (gL l st).left w' ∧ MpC w' b2 (gL l st).calls
set_option maxHeartbeats 4000000 in
set_option maxRecDepth 100000 in
theorem gNode.text (x : S78) (hk : x.f0 = 0) : gNode.Con x := by
  intro w0 g b1 b2 v st A A6 A7 c c6 c7 w hS hM hb2 hC6 hc6 hC7 hc7 hsm he hlc hlen
  rw [gN_at, if_pos hk]
  rw [hk]
  have hcl : st.code.length ≤ 1000000 := by omega
  have hem := Aside0.mk (fun o => emit_any ⟨0, x.f2, ⟨#[]⟩, false, 0, 0⟩ (w.alloc o) (hS.alloc o) hcl)
  have hS1 := Aside0.mk (fun o => (hS.out (mb := some b2)).alloc o)
  have hM1 := Aside0.mk (fun o => hM.alloc o)
  have hSA := Aside0.mk (fun o => hS.alloc o)
  clear hS hM hC6 hC7 hsm
  go_enter Tryd.func80, Tryd.ntmps80
  go_wp2_with (go_at_call 59; refine (hem.out _).mono ?_; rintro e w2 ⟨rfl, v2, h2⟩; have hMk := Aside0.mk ((hM1.out _).kept (hSA.out _) h2); replace h2 := Aside0.mk ((hS1.out _).call (h2.more _)))
  all_goals exact Go.Great.bodyPost_end0 rfl rfl ⟨rfl, _, _, _, h2.out, hMk.out⟩
end Go.Proofs.YtkpnfejfbmandaaDoor.Px

/- compile: a node of kind 5, of no kind, of kind 1. -/
namespace Go.Proofs.YtkpnfejfbmandaaDoor.Px
open Go.RowKit Go.Proofs.YtkpnfejfbmandaaDoorW.PrintWords Go.Proofs.YtkpnfejfbmandaaDoorW.PrintLast Go.Proofs.YtkpnfejfbmandaaDoorW.PrintMore
open Go.Maps Go.ChangeMaps Go.MapKept
set_option linter.unusedVariables false
set_option linter.unusedSimpArgs false
set_option maxHeartbeats 4000000 in
set_option maxRecDepth 100000 in
theorem gNode.five (x : S78) (hk : x.f0 = 5) : gNode.Con x := by
  intro w0 g b1 b2 v st A A6 A7 c c6 c7 w hS hM hb2 hC6 hc6 hC7 hc7 hsm he hlc hlen
  rw [gN_at, if_neg (by rw [hk]; decide), if_neg (by rw [hk]; decide), if_neg (by rw [hk]; decide), if_neg (by rw [hk]; decide), if_neg (by rw [hk]; decide), if_pos hk]
  rw [hk]
  have hcl : st.code.length ≤ 1000000 := by omega
  have hem := Aside0.mk (fun o => emit_any ⟨8, ⟨#[]⟩, ⟨#[]⟩, false, 0, 0⟩ (w.alloc o) (hS.alloc o) hcl)
  have hS1 := Aside0.mk (fun o => (hS.out (mb := some b2)).alloc o)
  have hM1 := Aside0.mk (fun o => hM.alloc o)
  have hSA := Aside0.mk (fun o => hS.alloc o)
  clear hS hM hC6 hC7 hsm
  go_enter Tryd.func80, Tryd.ntmps80
  go_wp2_with (go_at_call 59; refine (hem.out _).mono ?_; rintro e w2 ⟨rfl, v2, h2⟩; have hMk := Aside0.mk ((hM1.out _).kept (hSA.out _) h2); replace h2 := Aside0.mk ((hS1.out _).call (h2.more _)))
  all_goals exact Go.Great.bodyPost_end0 rfl rfl ⟨rfl, _, _, _, h2.out, hMk.out⟩
set_option maxHeartbeats 4000000 in
set_option maxRecDepth 100000 in
theorem gNode.other (x : S78) (hk : x.f0 ≠ 0 ∧ x.f0 ≠ 1 ∧ x.f0 ≠ 2 ∧ x.f0 ≠ 3 ∧ x.f0 ≠ 4 ∧ x.f0 ≠ 5) : gNode.Con x := by
  intro w0 g b1 b2 v st A A6 A7 c c6 c7 w hS hM hb2 hC6 hc6 hC7 hc7 hsm he hlc hlen
  obtain ⟨k0, k1, k2, k3, k4, k5⟩ := hk
  rw [gN_at, if_neg k0, if_neg k1, if_neg k2, if_neg k3, if_neg k4, if_neg k5]
  have e0 : (x.f0 == 0) = false := by simp [k0]
  have e1 : (x.f0 == 1) = false := by simp [k1]
  have e2 : (x.f0 == 2) = false := by simp [k2]
  have e3 : (x.f0 == 3) = false := by simp [k3]
  have e4 : (x.f0 == 4) = false := by simp [k4]
  have e5 : (x.f0 == 5) = false := by simp [k5]
  have hS1 := Aside0.mk (fun o => (hS.out (mb := some b2)).alloc o)
  have hM1 := Aside0.mk (fun o => hM.alloc o)
  clear hS hM hC6 hC7 hsm k0 k1 k2 k3 k4 k5
  go_enter Tryd.func80, Tryd.ntmps80
  go_wp2_with fail
  all_goals exact Go.Great.bodyPost_end0 rfl rfl ⟨rfl, _, _, _, hS1.out _, hM1.out _⟩
/-- The left escapers, one less. -/
theorem KIn.less {w0 g b1 b2 v code w} {A : Option Addr} {c : Nat} {left : List Int} (h : KIn w0 g b1 b2 v code A c left w) (hl : 0 < left.length) :
    KIn w0 g b1 b2 v code (if c = 1 then A else A.map (·.add 1)) (c - 1) (left.drop 1) (w.setCell ⟨g, 2, none⟩ (.slice (if c = 1 then A else A.map (·.add 1)) (left.length - 1) (c - 1))) := by
  refine ⟨?_, Kd.R_far h.own (fun _ h => h) _, Kd.C_drop (m := 1) h.lf (by omega) h.le, by rw [List.length_drop]; have := h.le; omega, h.bel.setCell h.ge _, h.ge⟩
  have := blk_set h.blk 2 (.slice (if c = 1 then A else A.map (·.add 1)) (left.length - 1) (c - 1))
  rw [List.length_drop]
  exact this
theorem KOut.less {w0 w g b1 b2 mb v0 v code W} {A : Option Addr} {c : Nat} {left : List Int} (h : KOut w0 w g b1 b2 mb v0 v code A c left W) (hl : 0 < left.length) :
    KOut w0 w g b1 b2 mb v0 v code (if c = 1 then A else A.map (·.add 1)) (c - 1) (left.drop 1) (W.setCell ⟨g, 2, none⟩ (.slice (if c = 1 then A else A.map (·.add 1)) (left.length - 1) (c - 1))) := ⟨h.st.less hl, h.keep.set _ _, h.row⟩
theorem KOut.boxed {w0 w : World} {g b1 b2 : Nat} {v v2 : Value} {code A c left code2 A2 c2 left2 W} {cs : Array Value} {t k : Nat} (h : KIn w0 g b1 b2 v code A c left w) (hO : KOut w0 w g b1 b2 none v v2 code2 A2 c2 left2 W) (hb : w.heap[k]? = some (.cells cs t (0, 0))) (ht : t ≠ 122) (ht2 : t ≠ 40) : W.heap[k]? = some (.cells cs t (0, 0)) := by
  refine (hO.keep.2 k (blk_lt hb) ?_ (by simp) ?_).trans hb
  · rintro rfl
    rw [h.blk] at hb
    cases hb
    exact ht rfl
  · intro e
    obtain ⟨_, inner, ho, _⟩ := h.own
    rcases ho.2 with ⟨rfl, _⟩ | ⟨g', cap, cur, rfl, _, hh, _⟩
    · cases e
    · obtain rfl : k = g' := by simpa [Value.ownBlock] using e
      rw [hh] at hb
      cases hb
      exact ht2 rfl
end Go.Proofs.YtkpnfejfbmandaaDoor.Px

/- compile: a node of kind 1 (an escaper is taken). -/
namespace Go.Proofs.YtkpnfejfbmandaaDoor.Px
open Go.RowKit Go.Proofs.YtkpnfejfbmandaaDoorW.PrintWords Go.Proofs.YtkpnfejfbmandaaDoorW.PrintLast Go.Proofs.YtkpnfejfbmandaaDoorW.PrintMore
open Go.Maps Go.ChangeMaps Go.MapKept
set_option linter.unusedVariables false
set_option linter.unusedSimpArgs false
set_option maxHeartbeats 1000000 in
set_option maxRecDepth 100000 in
theorem gNode.print (x : S78) (hk : x.f0 = 1) : gNode.Con x := by
  intro w0 g b1 b2 v st A A6 A7 c c6 c7 w hS hM hb2 hC6 hc6 hC7 hc7 hsm he hlc hlen
  rw [gN_at, if_neg (by rw [hk]; decide), if_pos hk]
  rw [hk]
  have hl0 : 0 < st.left.length := by
    have : eN x = 1 := by cases x; simp only at hk; simp [eN, hk]
    omega
  have hcl : st.code.length ≤ 1000000 := by omega
  obtain ⟨ad, rfl, hp0⟩ := Kd.at_int hS.lf 0 (by decide) (by exact_mod_cast hl0)
  replace hp0 : w0.cell? ad = some (.int .i64 (rdOf 0 st.left 0)) := hp0
  have hp1 : w.cell? ad = some (.int .i64 (rdOf 0 st.left 0)) := (hS.bel.cell (World.block_lt_of_cell? _ _ hp0)).trans hp0
  obtain ⟨e, he0⟩ : ∃ e, e = rdOf 0 st.left 0 := ⟨_, rfl⟩
  rw [← he0] at hp0 hp1 ⊢
  replace he0 := Aside0.mk he0
  obtain ⟨W1, e1⟩ : ∃ W1, W1 = w.alloc (.cells #[.int .i64 x.f0, .int .i64 x.f1, .string x.f2, .string x.f3, .bool x.f4, .bool x.f5, .slice A6 x.f6.length c6, .slice A7 x.f7.length c7] 78) := ⟨_, rfl⟩
  have hSW : KIn w0 g b1 b2 v st.code (some ad) c st.left W1 := by rw [e1]; exact hS.alloc _
  have hOW := Aside0.mk (show KOut w0 w g b1 b2 (some b2) v v st.code (some ad) c st.left W1 from by rw [e1]; exact hS.out.alloc _)
  have hMW := Aside0.mk (show MpC W1 b2 st.calls from by rw [e1]; exact hM.alloc _)
  have hbx := Aside0.mk (show W1.heap[w.heap.size]? = some (.cells #[.int .i64 x.f0, .int .i64 x.f1, .string x.f2, .string x.f3, .bool x.f4, .bool x.f5, .slice A6 x.f6.length c6, .slice A7 x.f7.length c7] 78 (0, 0)) from by rw [e1]; exact blk_new _ _)
  have c2 : W1.cell? ⟨g, 2, none⟩ = some (.slice (some ad) st.left.length c) := blk_cell hSW.blk 2
  have n3 : W1.cell? ⟨w.heap.size, 3, none⟩ = some (.string x.f3) := blk_cell hbx.out 3
  have p0 : W1.cell? ad = some (.int .i64 e) := (hSW.bel.cell (World.block_lt_of_cell? _ _ hp0)).trans hp0
  have hl0' : (0 : Int) < (st.left.length : Int) := by exact_mod_cast hl0
  have hem := Aside0.mk (emit_any ⟨1, ⟨#[]⟩, x.f3, false, e, 0⟩ W1.drew hSW.drew hcl)
  have hlec := hS.le
  replace hSW := Aside0.mk hSW
  rw [hk] at e1
  clear hS hM hC6 hC7 hsm
  go_enter Tryd.func80, Tryd.ntmps80
  go_upto_region 5 with fail
  rw [← e1]
  clear e1
  go_region_held3 (fun w' => w'.cell? ⟨g, 2, none⟩ = some (.slice (some ad) st.left.length c) ∧ w'.cell? ⟨w.heap.size, 3, none⟩ = some (.string x.f3) ∧ w'.cell? ad = some (.int .i64 e)) (first | exact ⟨c2, n3, p0⟩ | go_keep) (first | (go_at_call 59; refine hem.out.mono ?_; rintro ee w2 ⟨rfl, v2, h2⟩; have hMk := Aside0.mk (hMW.out.drew.kept hSW.out.drew h2); have hb2 := KOut.boxed hSW.out.drew h2 (show W1.drew.heap[w.heap.size]? = _ from hbx.out) (by decide) (by decide); have hq : w2.cell? ad = some (.int .i64 e) := (h2.st.bel.cell (World.block_lt_of_cell? _ _ hp0)).trans hp0; replace h2 := Aside0.mk (hOW.out.drew.call (h2.more _)); clear c2 n3 p0; have c2 : w2.cell? ⟨g, 2, none⟩ = some (.slice (some ad) st.left.length c) := blk_cell h2.out.st.blk 2; have n3 : w2.cell? ⟨w.heap.size, 3, none⟩ = some (.string x.f3) := blk_cell hb2 3; have p0 := hq; clear hb2 hq))
  clear n3 p0 hem hMW hOW hSW hbx
  have f2 := blk_frozen h2.out.st.blk 2
  have hm := Aside0.mk (hMk.out.move (Below.heap_setCell w2 ⟨g, 2, none⟩ (.slice (if c = 1 then some ad else (some ad).map (·.add 1)) (st.left.length - 1) (c - 1)) b2 (hMk.out.ne_g h2.out.st)))
  replace h2 := Aside0.mk (h2.out.less hl0)
  clear hMk
  rw [List.drop_one] at h2
  have h1l : (1 : Int) ≤ (st.left.length : Int) := by omega
  have h1c : (st.left.length : Int) ≤ (c : Int) := by omega
  have hg2 := World.block_lt_of_cell? _ _ c2
  replace he0 := he0.out
  subst he0
  by_cases hc1 : c = 1
  · subst hc1
    replace h2 := Aside0.mk (show KOut w0 w g b1 b2 (some b2) v v2 _ (some ad) 0 st.left.tail (w2.setCell ⟨g, 2, none⟩ (.slice (some ad) (st.left.length - 1) 0)) from h2.out)
    replace hm := Aside0.mk (show MpC (w2.setCell ⟨g, 2, none⟩ (.slice (some ad) (st.left.length - 1) 0)) b2 st.calls from hm.out)
    have ez : st.left.length - 1 = 0 := by omega
    rw [ez] at h2 hm
    go_wp2
    exact Go.Great.bodyPost_end0 rfl rfl ⟨rfl, ⟨v2, some ad, 0, h2.out⟩, hm.out⟩
  · rw [if_neg hc1] at h2 hm
    go_wp2
    exact Go.Great.bodyPost_end0 rfl rfl ⟨rfl, ⟨v2, some (ad.add 1), c - 1, h2.out⟩, hm.out⟩
end Go.Proofs.YtkpnfejfbmandaaDoor.Px
