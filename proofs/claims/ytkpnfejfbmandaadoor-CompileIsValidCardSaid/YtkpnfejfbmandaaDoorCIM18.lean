import Derived.Test.YtkpnfejfbmandaaDoorCIM17
import Derived.Laws.EntriesVeiled
import Derived.Outline
import Derived.StillTailTactics
/- defines.Check: the closure, calls. -/
namespace Go.Proofs.YtkpnfejfbmandaaDoor.Px
open Go.RowKit Go.Proofs.YtkpnfejfbmandaaDoorW.PrintWords Go.Proofs.YtkpnfejfbmandaaDoorW.PrintLast Go.Proofs.YtkpnfejfbmandaaDoorW.PrintMore
set_option linter.unusedVariables false
set_option linter.unusedSimpArgs false
structure CIn (w0 : World) (bm bc bt be : Nat) (ns : List ByteArray) (n : Nat) (D : DataW Unit) (a e : Int) (W : World) : Prop where
  mp : MpB W bm ns n D
  c : W.heap[bc]? = some (.cells #[.map (some bm)] 82 (0, 0))
  t : W.heap[bt]? = some (.cells #[.int .i64 a] 3 (0, 0))
  e : W.heap[be]? = some (.cells #[.int .i64 e] 24 (0, 0))
  bel : Below w0.heap.size w0 W
  ge : w0.heap.size ≤ bm ∧ w0.heap.size ≤ bc ∧ w0.heap.size ≤ bt ∧ w0.heap.size ≤ be
def Kp2 (w W : World) (bt be : Nat) : Prop := w.heap.size ≤ W.heap.size ∧ ∀ k, k < w.heap.size → k ≠ bt → k ≠ be → W.heap[k]? = w.heap[k]?
theorem Kp2.refl (w : World) (bt be : Nat) : Kp2 w w bt be := ⟨Nat.le_refl _, fun _ _ _ _ => rfl⟩
theorem Kp2.trans {w W W2 : World} {bt be : Nat} (h : Kp2 w W bt be) (k : Kp2 W W2 bt be) : Kp2 w W2 bt be := ⟨Nat.le_trans h.1 k.1, fun i hi a b => (k.2 i (Nat.lt_of_lt_of_le hi h.1) a b).trans (h.2 i hi a b)⟩
theorem Kp2.alloc (w : World) (bt be : Nat) (o : Obj) : Kp2 w (w.alloc o) bt be := ⟨by rw [World.size_alloc]; omega, fun i hi _ _ => Below.heap_alloc w o i hi⟩
theorem CIn.ne {w0 bm bc bt be ns n D a e W} (h : CIn w0 bm bc bt be ns n D a e W) : bm ≠ bt ∧ bm ≠ be ∧ bc ≠ bt ∧ bc ≠ be ∧ bt ≠ be := by
  obtain ⟨es, clock, hm, _⟩ := h.mp.own
  have ht := h.t
  have he := h.e
  have hc := h.c
  refine ⟨fun q => ?_, fun q => ?_, fun q => ?_, fun q => ?_, fun q => ?_⟩
  · rw [q, ht] at hm; simp at hm
  · rw [q, he] at hm; simp at hm
  · rw [q, ht] at hc; simp at hc
  · rw [q, he] at hc; simp at hc
  · rw [q, he] at ht; simp at ht
theorem CIn.alloc {w0 bm bc bt be ns n D a e W} (h : CIn w0 bm bc bt be ns n D a e W) (o : Obj) : CIn w0 bm bc bt be ns n D a e (W.alloc o) :=
  ⟨h.mp.move (Below.heap_alloc W o bm h.mp.own.lt), blk_alloc h.c o, blk_alloc h.t o, blk_alloc h.e o, h.bel.alloc h.bel.size o, h.ge⟩
theorem CIn.err {w0 bm bc bt be ns n D a e W} (h : CIn w0 bm bc bt be ns n D a e W) (a' e' : Int) : CIn w0 bm bc bt be ns n D a' e' ((W.setCell ⟨bt, 0, none⟩ (.int .i64 a')).setCell ⟨be, 0, none⟩ (.int .i64 e')) := by
  obtain ⟨n1, n2, n3, n4, n5⟩ := h.ne
  exact ⟨h.mp.move ((Below.heap_setCell _ _ _ _ n2).trans (Below.heap_setCell _ _ _ _ n1)), blk_far (blk_far h.c n3 _) n4 _, blk_far (blk_set h.t 0 _) n5 _, blk_set (blk_far h.e n5.symm _) 0 _, (h.bel.setCell h.ge.2.2.1 _).setCell h.ge.2.2.2 _, h.ge⟩
theorem Kp2.err (W : World) (bt be : Nat) (u v : Value) : Kp2 W ((W.setCell ⟨bt, 0, none⟩ u).setCell ⟨be, 0, none⟩ v) bt be :=
  ⟨by rw [World.size_setCell, World.size_setCell]; exact Nat.le_refl _, fun k _ h1 h2 => (Below.heap_setCell _ _ _ _ h2).trans (Below.heap_setCell _ _ _ _ h1)⟩
set_option maxHeartbeats 4000000 in
set_option maxRecDepth 100000 in
theorem closure_any {w0 bm bc bt be ns n D a} (kd at_ : Int) (S P : ByteArray) (p1 p2 : Bool) (v6 v7 : Value) (w : World) (hS : CIn w0 bm bc bt be ns n D a 0 w) (hs : S.size ≤ 65536) :
    Calls Tryd.prog 37 #[.agg #[.int .i64 kd, .int .i64 at_, .string S, .string P, .bool p1, .bool p2, v6, v7], .pointer (some ⟨bc, 0, none⟩), .pointer (some ⟨bt, 0, none⟩), .pointer (some ⟨be, 0, none⟩)] w fun e w' =>
      e = .returned (.bool (inN ns S)) ∧ CIn w0 bm bc bt be ns n D (if inN ns S then a else at_) (if inN ns S then 0 else 11) w' ∧ Kp2 w w' bt be := by
  have hcm : w.cell? ⟨bc, 0, none⟩ = some (.map (some bm)) := blk_cell hS.c 0
  have hct : w.cell? ⟨bt, 0, none⟩ = some (.int .i64 a) := blk_cell hS.t 0
  have hce : w.cell? ⟨be, 0, none⟩ = some (.int .i64 0) := blk_cell hS.e 0
  have hft := blk_frozen hS.t 0
  have hfe := blk_frozen hS.e 0
  have l1 := blk_lt hS.c
  have l2 := blk_lt hS.t
  have l3 := blk_lt hS.e
  obtain ⟨n1, n2, n3, n4, n5⟩ := hS.ne
  have hlook := fun o => (hS.alloc o).mp.look S hs
  replace hS := Aside0.mk hS
  cases hin : inN ns S
  all_goals
    rw [hin] at hlook
    go_enter Tryd.func37, Tryd.ntmps37
    go_wp2
    go_ret
  · exact ⟨rfl, (hS.out.err _ _).alloc _, (Kp2.err _ _ _ _ _).trans (Kp2.alloc _ _ _ _)⟩
  · exact ⟨rfl, hS.out.alloc _, Kp2.alloc _ _ _ _⟩
def callsR (l : List S78) (ns : List ByteArray) (a : Int) : Bool × Int × Int := match cS l ns with
  | some a' => (false, a', 11)
  | none => (true, a, 0)
abbrev calls.Con (l : List S78) : Prop := ∀ (w0 : World) (bm bc bt be : Nat) (ns : List ByteArray) (n : Nat) (D : DataW Unit) (a : Int) (A : Option Addr) (c : Nat) (w : World), CIn w0 bm bc bt be ns n D a 0 w → Kd.C k78 w0 A l.length l → l.length ≤ c → smL l → nL l ≤ 1000000 →
  Calls Tryd.prog 36 #[.slice A l.length c, .func (.func 37) #[] #[.pointer (some ⟨bc, 0, none⟩), .pointer (some ⟨bt, 0, none⟩), .pointer (some ⟨be, 0, none⟩)]] w fun e w' =>
    e = .returned (.bool (callsR l ns a).1) ∧ CIn w0 bm bc bt be ns n D (callsR l ns a).2.1 (callsR l ns a).2.2 w' ∧ Kp2 w w' bt be
theorem cN_at (x : S78) (ns : List ByteArray) : cN x ns = if (x.f0 == 4 && !inN ns x.f2) = true then some x.f1 else match cS x.f6 ns with
    | some a => some a
    | none => cS x.f7 ns := by cases x; rw [cN]; rfl
set_option maxHeartbeats 4000000 in
set_option maxRecDepth 100000 in
theorem calls.step (l : List S78) (ih : ∀ x ∈ l, calls.Con x.f6 ∧ calls.Con x.f7) : calls.Con l := by
  intro w0 bm bc bt be ns n D a A c w hS hC hc hsm hlen
  obtain ⟨q, hq⟩ : ∃ q, q = callsR l ns a := ⟨_, rfl⟩
  rw [← hq]
  have hll : l.length ≤ 1000000 := by have := nL_len l; omega
  replace ih := Aside0.mk ih
  replace hC := Aside0.mk hC
  replace hS := Aside0.mk hS
  replace hq := Aside0.mk hq
  replace hsm := Aside0.mk hsm
  go_enter Tryd.func36, Tryd.ntmps36
  go_wp2
  go_loopg [9] l.length (fun kq v9 wr => ∃ i : Nat, kq + i = l.length ∧ v9 = .int .i64 i ∧ q = callsR (l.drop i) ns a ∧ nL (l.drop i) ≤ 1000000 ∧ CIn w0 bm bc bt be ns n D a 0 wr ∧ Kp2 w wr bt be)
  case atStart => exact ⟨0, rfl, rfl, hq.out, hlen, hS.out, Kp2.refl _ _ _⟩
  case round =>
    clear hS hq hlen
    obtain ⟨i, hki, rfl, hq, hlen, hS, hK⟩ := hrel
    by_cases hlt2 : i < l.length
    · have hl : decide ((i : Int) < (l.length : Int)) = true := decide_eq_true (by omega)
      have hd : l.drop i = l[i] :: l.drop (i + 1) := List.drop_eq_getElem_cons hlt2
      obtain ⟨ad, A6, c6, A7, c7, hA, x0, x1, x2, x3, x4, x5, x6, x7, l6, g6, l7, g7⟩ := at_T78 hC.out (i : Int) (by omega) (by omega)
      have hrd : rd_T78 l (i : Int) = l[i] := by unfold rd_T78; simp [List.getD, hlt2]
      simp only [Int.toNat_natCast] at x0 x1 x2 x3 x4 x5 x6 x7
      rw [hrd] at x0 x1 x2 x3 x4 x5 x6 x7 l6 g6 l7 g7
      have hin := List.getElem_mem hlt2
      have hsd := sm_drop l i hsm.out
      rw [hd] at hq hlen hsd
      rw [nL_cons, nN_eq] at hlen
      generalize l[i] = x at *
      subst hA
      have up : ∀ {a : Addr} {u : Value}, w0.cell? a = some u → wr.cell? a = some u := fun h => (hS.bel.cell (World.block_lt_of_cell? _ _ h)).trans h
      have hab := World.block_lt_of_cell? _ _ (up x0)
      replace x0 := up x0
      replace x1 := up x1
      replace x2 := up x2
      replace x3 := up x3
      replace x4 := up x4
      replace x5 := up x5
      replace x6 := up x6
      replace x7 := up x7
      clear up hrd
      have hsx : x.f2.size ≤ 65536 ∧ smL x.f6 ∧ smL x.f7 := by have := hsd.1; cases x; simpa only [smN] using this
      have hnt : wr.heap.size ≠ bt := by have := blk_lt hS.t; omega
      have hne : wr.heap.size ≠ be := by have := blk_lt hS.e; omega
      have hc6 := Aside0.mk (fun a W h => (ih.out x hin).1 w0 bm bc bt be ns n D a A6 c6 W h g6 l6 hsx.2.1 (by omega))
      have hc7 := Aside0.mk (fun a W h => (ih.out x hin).2 w0 bm bc bt be ns n D a A7 c7 W h g7 l7 hsx.2.2 (by omega))
      have hcl := Aside0.mk (fun W h => closure_any (w0 := w0) (bm := bm) (bc := bc) (bt := bt) (be := be) (ns := ns) (n := n) (D := D) (a := a) x.f0 x.f1 x.f2 x.f3 x.f4 x.f5 (.slice A6 x.f6.length c6) (.slice A7 x.f7.length c7) W h hsx.1)
      unfold callsR at hq hc6 hc7
      rw [cS, cN_at] at hq
      have hb0 := Aside0.mk (blk_new wr (.cells #[.int .i64 x.f0, .int .i64 x.f1, .string x.f2, .string x.f3, .bool x.f4, .bool x.f5, .slice A6 x.f6.length c6, .slice A7 x.f7.length c7] 78))
      have hS0 := Aside0.mk (hS.alloc (.cells #[.int .i64 x.f0, .int .i64 x.f1, .string x.f2, .string x.f3, .bool x.f4, .bool x.f5, .slice A6 x.f6.length c6, .slice A7 x.f7.length c7] 78))
      have hK0 := Aside0.mk (hK.trans (Kp2.alloc wr bt be (.cells #[.int .i64 x.f0, .int .i64 x.f1, .string x.f2, .string x.f3, .bool x.f4, .bool x.f5, .slice A6 x.f6.length c6, .slice A7 x.f7.length c7] 78)))
      have hlb : wr.heap.size < (wr.alloc (.cells #[.int .i64 x.f0, .int .i64 x.f1, .string x.f2, .string x.f3, .bool x.f4, .bool x.f5, .slice A6 x.f6.length c6, .slice A7 x.f7.length c7] 78)).heap.size := by rw [World.size_alloc]; omega
      replace hlen := Aside0.mk hlen
      clear hS hK ih hC hsd hd g6 g7 l6 l7
      replace hq := Aside0.mk hq
      have n0 : (wr.alloc (.cells #[.int .i64 x.f0, .int .i64 x.f1, .string x.f2, .string x.f3, .bool x.f4, .bool x.f5, .slice A6 x.f6.length c6, .slice A7 x.f7.length c7] 78)).cell? ⟨wr.heap.size, 0, none⟩ = some (.int .i64 x.f0) := blk_cell hb0.out 0
      have n1 : (wr.alloc (.cells #[.int .i64 x.f0, .int .i64 x.f1, .string x.f2, .string x.f3, .bool x.f4, .bool x.f5, .slice A6 x.f6.length c6, .slice A7 x.f7.length c7] 78)).cell? ⟨wr.heap.size, 1, none⟩ = some (.int .i64 x.f1) := blk_cell hb0.out 1
      have n2 : (wr.alloc (.cells #[.int .i64 x.f0, .int .i64 x.f1, .string x.f2, .string x.f3, .bool x.f4, .bool x.f5, .slice A6 x.f6.length c6, .slice A7 x.f7.length c7] 78)).cell? ⟨wr.heap.size, 2, none⟩ = some (.string x.f2) := blk_cell hb0.out 2
      have n3 : (wr.alloc (.cells #[.int .i64 x.f0, .int .i64 x.f1, .string x.f2, .string x.f3, .bool x.f4, .bool x.f5, .slice A6 x.f6.length c6, .slice A7 x.f7.length c7] 78)).cell? ⟨wr.heap.size, 3, none⟩ = some (.string x.f3) := blk_cell hb0.out 3
      have n4 : (wr.alloc (.cells #[.int .i64 x.f0, .int .i64 x.f1, .string x.f2, .string x.f3, .bool x.f4, .bool x.f5, .slice A6 x.f6.length c6, .slice A7 x.f7.length c7] 78)).cell? ⟨wr.heap.size, 4, none⟩ = some (.bool x.f4) := blk_cell hb0.out 4
      have n5 : (wr.alloc (.cells #[.int .i64 x.f0, .int .i64 x.f1, .string x.f2, .string x.f3, .bool x.f4, .bool x.f5, .slice A6 x.f6.length c6, .slice A7 x.f7.length c7] 78)).cell? ⟨wr.heap.size, 5, none⟩ = some (.bool x.f5) := blk_cell hb0.out 5
      have n6 : (wr.alloc (.cells #[.int .i64 x.f0, .int .i64 x.f1, .string x.f2, .string x.f3, .bool x.f4, .bool x.f5, .slice A6 x.f6.length c6, .slice A7 x.f7.length c7] 78)).cell? ⟨wr.heap.size, 6, none⟩ = some (.slice A6 x.f6.length c6) := blk_cell hb0.out 6
      have n7 : (wr.alloc (.cells #[.int .i64 x.f0, .int .i64 x.f1, .string x.f2, .string x.f3, .bool x.f4, .bool x.f5, .slice A6 x.f6.length c6, .slice A7 x.f7.length c7] 78)).cell? ⟨wr.heap.size, 7, none⟩ = some (.slice A7 x.f7.length c7) := blk_cell hb0.out 7
      cases k4 : (x.f0 == 4)
      · simp only [k4, Bool.true_and, Bool.false_and, Bool.not_true, Bool.not_false, Bool.false_eq_true, if_true, if_false] at hq
        cases h6 : cS x.f6 ns with
        | some a6 =>
          rw [h6] at hc6 hq
          dsimp only at hc6 hq
          go_wp2_with (first | (go_at_call 36; (with_reducible refine (hc6.out a _ hS0.out).mono ?_); rintro e_ w1 ⟨rfl, hS1, hK1⟩; have hb1 := Aside0.mk ((hK1.2 wr.heap.size (blk_lt hb0.out) hnt hne).trans hb0.out); have hS1 := Aside0.mk hS1; have hK1 := Aside0.mk (hK0.out.trans hK1); clear n0 n1 n2 n3 n4 n5 n6 n7; have n0 : w1.cell? ⟨wr.heap.size, 0, none⟩ = some (.int .i64 x.f0) := blk_cell hb1.out 0; have n1 : w1.cell? ⟨wr.heap.size, 1, none⟩ = some (.int .i64 x.f1) := blk_cell hb1.out 1; have n2 : w1.cell? ⟨wr.heap.size, 2, none⟩ = some (.string x.f2) := blk_cell hb1.out 2; have n3 : w1.cell? ⟨wr.heap.size, 3, none⟩ = some (.string x.f3) := blk_cell hb1.out 3; have n4 : w1.cell? ⟨wr.heap.size, 4, none⟩ = some (.bool x.f4) := blk_cell hb1.out 4; have n5 : w1.cell? ⟨wr.heap.size, 5, none⟩ = some (.bool x.f5) := blk_cell hb1.out 5; have n6 : w1.cell? ⟨wr.heap.size, 6, none⟩ = some (.slice A6 x.f6.length c6) := blk_cell hb1.out 6; have n7 : w1.cell? ⟨wr.heap.size, 7, none⟩ = some (.slice A7 x.f7.length c7) := blk_cell hb1.out 7))
          go_ret
          rw [hq.out]
          exact ⟨rfl, hS1.out, hK1.out⟩
        | none =>
          rw [h6] at hc6 hq
          dsimp only at hc6 hq
          cases h7 : cS x.f7 ns with
          | some a7 =>
            rw [h7] at hc7 hq
            dsimp only at hc7 hq
            go_wp2_with (first | (go_at_call 36; (with_reducible refine (hc6.out a _ hS0.out).mono ?_); rintro e_ w1 ⟨rfl, hS1, hK1⟩; have hb1 := Aside0.mk ((hK1.2 wr.heap.size (blk_lt hb0.out) hnt hne).trans hb0.out); have hS1 := Aside0.mk hS1; have hK1 := Aside0.mk (hK0.out.trans hK1); clear n0 n1 n2 n3 n4 n5 n6 n7; have n0 : w1.cell? ⟨wr.heap.size, 0, none⟩ = some (.int .i64 x.f0) := blk_cell hb1.out 0; have n1 : w1.cell? ⟨wr.heap.size, 1, none⟩ = some (.int .i64 x.f1) := blk_cell hb1.out 1; have n2 : w1.cell? ⟨wr.heap.size, 2, none⟩ = some (.string x.f2) := blk_cell hb1.out 2; have n3 : w1.cell? ⟨wr.heap.size, 3, none⟩ = some (.string x.f3) := blk_cell hb1.out 3; have n4 : w1.cell? ⟨wr.heap.size, 4, none⟩ = some (.bool x.f4) := blk_cell hb1.out 4; have n5 : w1.cell? ⟨wr.heap.size, 5, none⟩ = some (.bool x.f5) := blk_cell hb1.out 5; have n6 : w1.cell? ⟨wr.heap.size, 6, none⟩ = some (.slice A6 x.f6.length c6) := blk_cell hb1.out 6; have n7 : w1.cell? ⟨wr.heap.size, 7, none⟩ = some (.slice A7 x.f7.length c7) := blk_cell hb1.out 7) | (go_at_call 36; (with_reducible refine (hc7.out a _ hS1.out).mono ?_); rintro e_ w2 ⟨rfl, hS2, hK2⟩; have hb2 := Aside0.mk ((hK2.2 wr.heap.size (blk_lt hb1.out) hnt hne).trans hb1.out); have hS2 := Aside0.mk hS2; have hK2 := Aside0.mk (hK1.out.trans hK2); clear n0 n1 n2 n3 n4 n5 n6 n7; have n0 : w2.cell? ⟨wr.heap.size, 0, none⟩ = some (.int .i64 x.f0) := blk_cell hb2.out 0; have n1 : w2.cell? ⟨wr.heap.size, 1, none⟩ = some (.int .i64 x.f1) := blk_cell hb2.out 1; have n2 : w2.cell? ⟨wr.heap.size, 2, none⟩ = some (.string x.f2) := blk_cell hb2.out 2; have n3 : w2.cell? ⟨wr.heap.size, 3, none⟩ = some (.string x.f3) := blk_cell hb2.out 3; have n4 : w2.cell? ⟨wr.heap.size, 4, none⟩ = some (.bool x.f4) := blk_cell hb2.out 4; have n5 : w2.cell? ⟨wr.heap.size, 5, none⟩ = some (.bool x.f5) := blk_cell hb2.out 5; have n6 : w2.cell? ⟨wr.heap.size, 6, none⟩ = some (.slice A6 x.f6.length c6) := blk_cell hb2.out 6; have n7 : w2.cell? ⟨wr.heap.size, 7, none⟩ = some (.slice A7 x.f7.length c7) := blk_cell hb2.out 7))
            go_ret
            rw [hq.out]
            exact ⟨rfl, hS2.out, hK2.out⟩
          | none =>
            rw [h7] at hc7 hq
            dsimp only at hc7 hq
            change Aside0 (q = callsR (l.drop (i + 1)) ns a) at hq
            go_wp2_with (first | (go_at_call 36; (with_reducible refine (hc6.out a _ hS0.out).mono ?_); rintro e_ w1 ⟨rfl, hS1, hK1⟩; have hb1 := Aside0.mk ((hK1.2 wr.heap.size (blk_lt hb0.out) hnt hne).trans hb0.out); have hS1 := Aside0.mk hS1; have hK1 := Aside0.mk (hK0.out.trans hK1); clear n0 n1 n2 n3 n4 n5 n6 n7; have n0 : w1.cell? ⟨wr.heap.size, 0, none⟩ = some (.int .i64 x.f0) := blk_cell hb1.out 0; have n1 : w1.cell? ⟨wr.heap.size, 1, none⟩ = some (.int .i64 x.f1) := blk_cell hb1.out 1; have n2 : w1.cell? ⟨wr.heap.size, 2, none⟩ = some (.string x.f2) := blk_cell hb1.out 2; have n3 : w1.cell? ⟨wr.heap.size, 3, none⟩ = some (.string x.f3) := blk_cell hb1.out 3; have n4 : w1.cell? ⟨wr.heap.size, 4, none⟩ = some (.bool x.f4) := blk_cell hb1.out 4; have n5 : w1.cell? ⟨wr.heap.size, 5, none⟩ = some (.bool x.f5) := blk_cell hb1.out 5; have n6 : w1.cell? ⟨wr.heap.size, 6, none⟩ = some (.slice A6 x.f6.length c6) := blk_cell hb1.out 6; have n7 : w1.cell? ⟨wr.heap.size, 7, none⟩ = some (.slice A7 x.f7.length c7) := blk_cell hb1.out 7) | (go_at_call 36; (with_reducible refine (hc7.out a _ hS1.out).mono ?_); rintro e_ w2 ⟨rfl, hS2, hK2⟩; have hb2 := Aside0.mk ((hK2.2 wr.heap.size (blk_lt hb1.out) hnt hne).trans hb1.out); have hS2 := Aside0.mk hS2; have hK2 := Aside0.mk (hK1.out.trans hK2); clear n0 n1 n2 n3 n4 n5 n6 n7; have n0 : w2.cell? ⟨wr.heap.size, 0, none⟩ = some (.int .i64 x.f0) := blk_cell hb2.out 0; have n1 : w2.cell? ⟨wr.heap.size, 1, none⟩ = some (.int .i64 x.f1) := blk_cell hb2.out 1; have n2 : w2.cell? ⟨wr.heap.size, 2, none⟩ = some (.string x.f2) := blk_cell hb2.out 2; have n3 : w2.cell? ⟨wr.heap.size, 3, none⟩ = some (.string x.f3) := blk_cell hb2.out 3; have n4 : w2.cell? ⟨wr.heap.size, 4, none⟩ = some (.bool x.f4) := blk_cell hb2.out 4; have n5 : w2.cell? ⟨wr.heap.size, 5, none⟩ = some (.bool x.f5) := blk_cell hb2.out 5; have n6 : w2.cell? ⟨wr.heap.size, 6, none⟩ = some (.slice A6 x.f6.length c6) := blk_cell hb2.out 6; have n7 : w2.cell? ⟨wr.heap.size, 7, none⟩ = some (.slice A7 x.f7.length c7) := blk_cell hb2.out 7))
            go_roundg (gk - 1)
            case measure => omega
            case rel => exact ⟨i + 1, by omega, by simp, hq.out, by have := hlen.out; omega, hS2.out, hK2.out⟩
      · cases hi : inN ns x.f2
        · simp only [k4, hi, Bool.true_and, Bool.false_and, Bool.not_true, Bool.not_false, Bool.false_eq_true, if_true, if_false] at hq
          simp only [hi, Bool.true_and, Bool.false_and, Bool.not_true, Bool.not_false, Bool.false_eq_true, if_true, if_false] at hcl
          try dsimp only at hq
          go_wp2_with (first | (go_at_call 37; (with_reducible refine (hcl.out _ hS0.out).mono ?_); rintro e_ w1 ⟨rfl, hS1, hK1⟩; have hb1 := Aside0.mk ((hK1.2 wr.heap.size (blk_lt hb0.out) hnt hne).trans hb0.out); have hS1 := Aside0.mk hS1; have hK1 := Aside0.mk (hK0.out.trans hK1); clear n0 n1 n2 n3 n4 n5 n6 n7; have n0 : w1.cell? ⟨wr.heap.size, 0, none⟩ = some (.int .i64 x.f0) := blk_cell hb1.out 0; have n1 : w1.cell? ⟨wr.heap.size, 1, none⟩ = some (.int .i64 x.f1) := blk_cell hb1.out 1; have n2 : w1.cell? ⟨wr.heap.size, 2, none⟩ = some (.string x.f2) := blk_cell hb1.out 2; have n3 : w1.cell? ⟨wr.heap.size, 3, none⟩ = some (.string x.f3) := blk_cell hb1.out 3; have n4 : w1.cell? ⟨wr.heap.size, 4, none⟩ = some (.bool x.f4) := blk_cell hb1.out 4; have n5 : w1.cell? ⟨wr.heap.size, 5, none⟩ = some (.bool x.f5) := blk_cell hb1.out 5; have n6 : w1.cell? ⟨wr.heap.size, 6, none⟩ = some (.slice A6 x.f6.length c6) := blk_cell hb1.out 6; have n7 : w1.cell? ⟨wr.heap.size, 7, none⟩ = some (.slice A7 x.f7.length c7) := blk_cell hb1.out 7))
          go_ret
          rw [hq.out]
          exact ⟨rfl, hS1.out, hK1.out⟩
        · simp only [k4, hi, Bool.true_and, Bool.false_and, Bool.not_true, Bool.not_false, Bool.false_eq_true, if_true, if_false] at hq
          simp only [hi, Bool.true_and, Bool.false_and, Bool.not_true, Bool.not_false, Bool.false_eq_true, if_true, if_false] at hcl
          cases h6 : cS x.f6 ns with
          | some a6 =>
            rw [h6] at hc6 hq
            dsimp only at hc6 hq
            go_wp2_with (first | (go_at_call 37; (with_reducible refine (hcl.out _ hS0.out).mono ?_); rintro e_ w1 ⟨rfl, hS1, hK1⟩; have hb1 := Aside0.mk ((hK1.2 wr.heap.size (blk_lt hb0.out) hnt hne).trans hb0.out); have hS1 := Aside0.mk hS1; have hK1 := Aside0.mk (hK0.out.trans hK1); clear n0 n1 n2 n3 n4 n5 n6 n7; have n0 : w1.cell? ⟨wr.heap.size, 0, none⟩ = some (.int .i64 x.f0) := blk_cell hb1.out 0; have n1 : w1.cell? ⟨wr.heap.size, 1, none⟩ = some (.int .i64 x.f1) := blk_cell hb1.out 1; have n2 : w1.cell? ⟨wr.heap.size, 2, none⟩ = some (.string x.f2) := blk_cell hb1.out 2; have n3 : w1.cell? ⟨wr.heap.size, 3, none⟩ = some (.string x.f3) := blk_cell hb1.out 3; have n4 : w1.cell? ⟨wr.heap.size, 4, none⟩ = some (.bool x.f4) := blk_cell hb1.out 4; have n5 : w1.cell? ⟨wr.heap.size, 5, none⟩ = some (.bool x.f5) := blk_cell hb1.out 5; have n6 : w1.cell? ⟨wr.heap.size, 6, none⟩ = some (.slice A6 x.f6.length c6) := blk_cell hb1.out 6; have n7 : w1.cell? ⟨wr.heap.size, 7, none⟩ = some (.slice A7 x.f7.length c7) := blk_cell hb1.out 7) | (go_at_call 36; (with_reducible refine (hc6.out a _ hS1.out).mono ?_); rintro e_ w2 ⟨rfl, hS2, hK2⟩; have hb2 := Aside0.mk ((hK2.2 wr.heap.size (blk_lt hb1.out) hnt hne).trans hb1.out); have hS2 := Aside0.mk hS2; have hK2 := Aside0.mk (hK1.out.trans hK2); clear n0 n1 n2 n3 n4 n5 n6 n7; have n0 : w2.cell? ⟨wr.heap.size, 0, none⟩ = some (.int .i64 x.f0) := blk_cell hb2.out 0; have n1 : w2.cell? ⟨wr.heap.size, 1, none⟩ = some (.int .i64 x.f1) := blk_cell hb2.out 1; have n2 : w2.cell? ⟨wr.heap.size, 2, none⟩ = some (.string x.f2) := blk_cell hb2.out 2; have n3 : w2.cell? ⟨wr.heap.size, 3, none⟩ = some (.string x.f3) := blk_cell hb2.out 3; have n4 : w2.cell? ⟨wr.heap.size, 4, none⟩ = some (.bool x.f4) := blk_cell hb2.out 4; have n5 : w2.cell? ⟨wr.heap.size, 5, none⟩ = some (.bool x.f5) := blk_cell hb2.out 5; have n6 : w2.cell? ⟨wr.heap.size, 6, none⟩ = some (.slice A6 x.f6.length c6) := blk_cell hb2.out 6; have n7 : w2.cell? ⟨wr.heap.size, 7, none⟩ = some (.slice A7 x.f7.length c7) := blk_cell hb2.out 7))
            go_ret
            rw [hq.out]
            exact ⟨rfl, hS2.out, hK2.out⟩
          | none =>
            rw [h6] at hc6 hq
            dsimp only at hc6 hq
            cases h7 : cS x.f7 ns with
            | some a7 =>
              rw [h7] at hc7 hq
              dsimp only at hc7 hq
              go_wp2_with (first | (go_at_call 37; (with_reducible refine (hcl.out _ hS0.out).mono ?_); rintro e_ w1 ⟨rfl, hS1, hK1⟩; have hb1 := Aside0.mk ((hK1.2 wr.heap.size (blk_lt hb0.out) hnt hne).trans hb0.out); have hS1 := Aside0.mk hS1; have hK1 := Aside0.mk (hK0.out.trans hK1); clear n0 n1 n2 n3 n4 n5 n6 n7; have n0 : w1.cell? ⟨wr.heap.size, 0, none⟩ = some (.int .i64 x.f0) := blk_cell hb1.out 0; have n1 : w1.cell? ⟨wr.heap.size, 1, none⟩ = some (.int .i64 x.f1) := blk_cell hb1.out 1; have n2 : w1.cell? ⟨wr.heap.size, 2, none⟩ = some (.string x.f2) := blk_cell hb1.out 2; have n3 : w1.cell? ⟨wr.heap.size, 3, none⟩ = some (.string x.f3) := blk_cell hb1.out 3; have n4 : w1.cell? ⟨wr.heap.size, 4, none⟩ = some (.bool x.f4) := blk_cell hb1.out 4; have n5 : w1.cell? ⟨wr.heap.size, 5, none⟩ = some (.bool x.f5) := blk_cell hb1.out 5; have n6 : w1.cell? ⟨wr.heap.size, 6, none⟩ = some (.slice A6 x.f6.length c6) := blk_cell hb1.out 6; have n7 : w1.cell? ⟨wr.heap.size, 7, none⟩ = some (.slice A7 x.f7.length c7) := blk_cell hb1.out 7) | (go_at_call 36; (with_reducible refine (hc6.out a _ hS1.out).mono ?_); rintro e_ w2 ⟨rfl, hS2, hK2⟩; have hb2 := Aside0.mk ((hK2.2 wr.heap.size (blk_lt hb1.out) hnt hne).trans hb1.out); have hS2 := Aside0.mk hS2; have hK2 := Aside0.mk (hK1.out.trans hK2); clear n0 n1 n2 n3 n4 n5 n6 n7; have n0 : w2.cell? ⟨wr.heap.size, 0, none⟩ = some (.int .i64 x.f0) := blk_cell hb2.out 0; have n1 : w2.cell? ⟨wr.heap.size, 1, none⟩ = some (.int .i64 x.f1) := blk_cell hb2.out 1; have n2 : w2.cell? ⟨wr.heap.size, 2, none⟩ = some (.string x.f2) := blk_cell hb2.out 2; have n3 : w2.cell? ⟨wr.heap.size, 3, none⟩ = some (.string x.f3) := blk_cell hb2.out 3; have n4 : w2.cell? ⟨wr.heap.size, 4, none⟩ = some (.bool x.f4) := blk_cell hb2.out 4; have n5 : w2.cell? ⟨wr.heap.size, 5, none⟩ = some (.bool x.f5) := blk_cell hb2.out 5; have n6 : w2.cell? ⟨wr.heap.size, 6, none⟩ = some (.slice A6 x.f6.length c6) := blk_cell hb2.out 6; have n7 : w2.cell? ⟨wr.heap.size, 7, none⟩ = some (.slice A7 x.f7.length c7) := blk_cell hb2.out 7) | (go_at_call 36; (with_reducible refine (hc7.out a _ hS2.out).mono ?_); rintro e_ w3 ⟨rfl, hS3, hK3⟩; have hb3 := Aside0.mk ((hK3.2 wr.heap.size (blk_lt hb2.out) hnt hne).trans hb2.out); have hS3 := Aside0.mk hS3; have hK3 := Aside0.mk (hK2.out.trans hK3); clear n0 n1 n2 n3 n4 n5 n6 n7; have n0 : w3.cell? ⟨wr.heap.size, 0, none⟩ = some (.int .i64 x.f0) := blk_cell hb3.out 0; have n1 : w3.cell? ⟨wr.heap.size, 1, none⟩ = some (.int .i64 x.f1) := blk_cell hb3.out 1; have n2 : w3.cell? ⟨wr.heap.size, 2, none⟩ = some (.string x.f2) := blk_cell hb3.out 2; have n3 : w3.cell? ⟨wr.heap.size, 3, none⟩ = some (.string x.f3) := blk_cell hb3.out 3; have n4 : w3.cell? ⟨wr.heap.size, 4, none⟩ = some (.bool x.f4) := blk_cell hb3.out 4; have n5 : w3.cell? ⟨wr.heap.size, 5, none⟩ = some (.bool x.f5) := blk_cell hb3.out 5; have n6 : w3.cell? ⟨wr.heap.size, 6, none⟩ = some (.slice A6 x.f6.length c6) := blk_cell hb3.out 6; have n7 : w3.cell? ⟨wr.heap.size, 7, none⟩ = some (.slice A7 x.f7.length c7) := blk_cell hb3.out 7))
              go_ret
              rw [hq.out]
              exact ⟨rfl, hS3.out, hK3.out⟩
            | none =>
              rw [h7] at hc7 hq
              dsimp only at hc7 hq
              change Aside0 (q = callsR (l.drop (i + 1)) ns a) at hq
              go_wp2_with (first | (go_at_call 37; (with_reducible refine (hcl.out _ hS0.out).mono ?_); rintro e_ w1 ⟨rfl, hS1, hK1⟩; have hb1 := Aside0.mk ((hK1.2 wr.heap.size (blk_lt hb0.out) hnt hne).trans hb0.out); have hS1 := Aside0.mk hS1; have hK1 := Aside0.mk (hK0.out.trans hK1); clear n0 n1 n2 n3 n4 n5 n6 n7; have n0 : w1.cell? ⟨wr.heap.size, 0, none⟩ = some (.int .i64 x.f0) := blk_cell hb1.out 0; have n1 : w1.cell? ⟨wr.heap.size, 1, none⟩ = some (.int .i64 x.f1) := blk_cell hb1.out 1; have n2 : w1.cell? ⟨wr.heap.size, 2, none⟩ = some (.string x.f2) := blk_cell hb1.out 2; have n3 : w1.cell? ⟨wr.heap.size, 3, none⟩ = some (.string x.f3) := blk_cell hb1.out 3; have n4 : w1.cell? ⟨wr.heap.size, 4, none⟩ = some (.bool x.f4) := blk_cell hb1.out 4; have n5 : w1.cell? ⟨wr.heap.size, 5, none⟩ = some (.bool x.f5) := blk_cell hb1.out 5; have n6 : w1.cell? ⟨wr.heap.size, 6, none⟩ = some (.slice A6 x.f6.length c6) := blk_cell hb1.out 6; have n7 : w1.cell? ⟨wr.heap.size, 7, none⟩ = some (.slice A7 x.f7.length c7) := blk_cell hb1.out 7) | (go_at_call 36; (with_reducible refine (hc6.out a _ hS1.out).mono ?_); rintro e_ w2 ⟨rfl, hS2, hK2⟩; have hb2 := Aside0.mk ((hK2.2 wr.heap.size (blk_lt hb1.out) hnt hne).trans hb1.out); have hS2 := Aside0.mk hS2; have hK2 := Aside0.mk (hK1.out.trans hK2); clear n0 n1 n2 n3 n4 n5 n6 n7; have n0 : w2.cell? ⟨wr.heap.size, 0, none⟩ = some (.int .i64 x.f0) := blk_cell hb2.out 0; have n1 : w2.cell? ⟨wr.heap.size, 1, none⟩ = some (.int .i64 x.f1) := blk_cell hb2.out 1; have n2 : w2.cell? ⟨wr.heap.size, 2, none⟩ = some (.string x.f2) := blk_cell hb2.out 2; have n3 : w2.cell? ⟨wr.heap.size, 3, none⟩ = some (.string x.f3) := blk_cell hb2.out 3; have n4 : w2.cell? ⟨wr.heap.size, 4, none⟩ = some (.bool x.f4) := blk_cell hb2.out 4; have n5 : w2.cell? ⟨wr.heap.size, 5, none⟩ = some (.bool x.f5) := blk_cell hb2.out 5; have n6 : w2.cell? ⟨wr.heap.size, 6, none⟩ = some (.slice A6 x.f6.length c6) := blk_cell hb2.out 6; have n7 : w2.cell? ⟨wr.heap.size, 7, none⟩ = some (.slice A7 x.f7.length c7) := blk_cell hb2.out 7) | (go_at_call 36; (with_reducible refine (hc7.out a _ hS2.out).mono ?_); rintro e_ w3 ⟨rfl, hS3, hK3⟩; have hb3 := Aside0.mk ((hK3.2 wr.heap.size (blk_lt hb2.out) hnt hne).trans hb2.out); have hS3 := Aside0.mk hS3; have hK3 := Aside0.mk (hK2.out.trans hK3); clear n0 n1 n2 n3 n4 n5 n6 n7; have n0 : w3.cell? ⟨wr.heap.size, 0, none⟩ = some (.int .i64 x.f0) := blk_cell hb3.out 0; have n1 : w3.cell? ⟨wr.heap.size, 1, none⟩ = some (.int .i64 x.f1) := blk_cell hb3.out 1; have n2 : w3.cell? ⟨wr.heap.size, 2, none⟩ = some (.string x.f2) := blk_cell hb3.out 2; have n3 : w3.cell? ⟨wr.heap.size, 3, none⟩ = some (.string x.f3) := blk_cell hb3.out 3; have n4 : w3.cell? ⟨wr.heap.size, 4, none⟩ = some (.bool x.f4) := blk_cell hb3.out 4; have n5 : w3.cell? ⟨wr.heap.size, 5, none⟩ = some (.bool x.f5) := blk_cell hb3.out 5; have n6 : w3.cell? ⟨wr.heap.size, 6, none⟩ = some (.slice A6 x.f6.length c6) := blk_cell hb3.out 6; have n7 : w3.cell? ⟨wr.heap.size, 7, none⟩ = some (.slice A7 x.f7.length c7) := blk_cell hb3.out 7))
              go_roundg (gk - 1)
              case measure => omega
              case rel => exact ⟨i + 1, by omega, by simp, hq.out, by have := hlen.out; omega, hS3.out, hK3.out⟩
    · have hl : decide ((i : Int) < (l.length : Int)) = false := decide_eq_false (by omega)
      rw [List.drop_eq_nil_of_le (by omega)] at hq
      unfold callsR at hq
      rw [cS] at hq
      dsimp only at hq
      subst hq
      clear ih hC
      replace hS := Aside0.mk hS
      replace hK := Aside0.mk hK
      go_wp2
      go_ret
      exact ⟨rfl, hS.out, hK.out⟩
theorem calls_all : ∀ (n : Nat), (∀ l : List S78, SizeOf.sizeOf l < n → calls.Con l) := by
  intro n
  induction n with
  | zero => intro l h; exact absurd h (Nat.not_lt_zero _)
  | succ n ih =>
    intro l h
    refine calls.step l fun x hx => ?_
    have h1 := List.sizeOf_lt_of_mem hx
    have h2 : SizeOf.sizeOf x.f6 < SizeOf.sizeOf x ∧ SizeOf.sizeOf x.f7 < SizeOf.sizeOf x := by cases x; simp; omega
    exact ⟨ih _ (by omega), ih _ (by omega)⟩
theorem calls_any (l : List S78) : calls.Con l := calls_all _ l (Nat.lt_succ_self _)
end Go.Proofs.YtkpnfejfbmandaaDoor.Px
namespace Go.Proofs.YtkpnfejfbmandaaDoor.Px
open Go.RowKit Go.Proofs.YtkpnfejfbmandaaDoorW.PrintWords Go.Proofs.YtkpnfejfbmandaaDoorW.PrintLast Go.Proofs.YtkpnfejfbmandaaDoorW.PrintMore
set_option linter.unusedVariables false
set_option linter.unusedSimpArgs false
structure DLoop (w : World) (l : List S78) (R : Except (Int × Int) (List ByteArray)) (i : Nat) (ns : List ByteArray) (n : Nat) (D : DataW Unit) (wr : World) : Prop where
  eq : dS (l.drop i) ns = R
  mp : MpB wr w.heap.size ns n D
  c : wr.heap[w.heap.size + 1]? = some (.cells #[.map (some w.heap.size)] 82 (0, 0))
  bel : Below w.heap.size w wr
  le : ns.length ≤ 64
set_option maxHeartbeats 4000000 in
set_option maxRecDepth 100000 in
theorem check_any (l : List S78) (A : Option Addr) (c : Nat) (w : World) (hC : Kd.C k78 w A l.length l) (hc : l.length ≤ c) (hsm : smL l) (hlen : nL l ≤ 1000000) :
    Calls Tryd.prog 16 #[.slice A l.length c] w fun e w' => e = .returned (.tuple #[.int .i64 (checkF l).1, .int .i64 (checkF l).2]) ∧ Below w.heap.size w w' := by
  obtain ⟨r, hr⟩ : ∃ r, r = checkF l := ⟨_, rfl⟩
  rw [← hr]
  have hll : l.length ≤ 1000000 := by have := nL_len l; omega
  have hmm := @run_makeMap Tryd.prog
  have hcalls := Aside0.mk (fun bm bc bt be ns n D a W h => calls_any l w bm bc bt be ns n D a A c W h hC hc hsm hlen)
  have H0 : DLoop w l (dS l []) 0 [] 0 (.map []) ((w.alloc (.map #[] 0)).alloc (.cells #[.map (some w.heap.size)] 82)) := ⟨rfl, (MpB.start w).move (Below.heap_alloc _ _ _ (by rw [World.size_alloc]; omega)), blk_n1 _ _ _, below_alloc (below_alloc (Below.refl _ _) _) _, by decide⟩
  unfold checkF at hr
  generalize dS l [] = R at *
  replace hr := Aside0.mk hr
  replace hC := Aside0.mk hC
  replace H0 := Aside0.mk H0
  replace hsm := Aside0.mk hsm
  go_enter Tryd.func16, Tryd.ntmps16
  go_wp2
  go_loopg [12] l.length (fun kq v12 wr => ∃ (i : Nat) (ns : List ByteArray) (n : Nat) (D : DataW Unit), kq + i = l.length ∧ v12 = .int .i64 i ∧ DLoop w l R i ns n D wr)
  case atStart => exact ⟨0, [], 0, .map [], rfl, rfl, H0.out⟩
  case round =>
    clear H0 hmm
    obtain ⟨i, ns, n, D, hki, rfl, HR⟩ := hrel
    have hcc : wr.cell? ⟨w.heap.size + 1, 0, none⟩ = some (.map (some w.heap.size)) := blk_cell HR.c 0
    have hlc := blk_lt HR.c
    by_cases hlt2 : i < l.length
    · have hl : decide ((i : Int) < (l.length : Int)) = true := decide_eq_true (by omega)
      have hd : l.drop i = l[i] :: l.drop (i + 1) := List.drop_eq_getElem_cons hlt2
      obtain ⟨ad, A6, c6, A7, c7, hA, x0, x1, x2, x3, x4, x5, x6, x7, -⟩ := at_T78 hC.out (i : Int) (by omega) (by omega)
      have hrd : rd_T78 l (i : Int) = l[i] := by unfold rd_T78; simp [List.getD, hlt2]
      simp only [Int.toNat_natCast] at x0 x1 x2 x3 x4 x5 x6 x7
      rw [hrd] at x0 x1 x2 x3 x4 x5 x6 x7
      have hsd := sm_drop l i hsm.out
      have HE := HR.eq
      rw [hd] at HE hsd
      generalize l[i] = x at *
      subst hA
      have up : ∀ {a : Addr} {u : Value}, w.cell? a = some u → wr.cell? a = some u := fun h => (HR.bel.cell (World.block_lt_of_cell? _ _ h)).trans h
      have hab := World.block_lt_of_cell? _ _ (up x0)
      replace x0 := up x0
      replace x1 := up x1
      replace x2 := up x2
      replace x3 := up x3
      replace x4 := up x4
      replace x5 := up x5
      replace x6 := up x6
      replace x7 := up x7
      clear up hrd hC
      have hsx : x.f2.size ≤ 65536 := by have := hsd.1; cases x; simp only [smN] at this; exact this.1
      have hkey : keyOf Tryd.prog 9 (.string x.f2) = some (kS x.f2) := Go.WideMaps.keyOf_string_mk Tryd.underlying9 (show x.f2.size ≤ maxLen by unfold maxLen; omega)
      have hM : ∀ ob, MpB (wr.alloc ob) w.heap.size ns n D := fun ob => HR.mp.move (Below.heap_alloc _ _ _ HR.mp.own.lt)
      have hlook := fun ob => (hM ob).look x.f2 hsx
      have hlq : ∀ ob ty, (Builtin.len_ #[82] ty #[.map (some w.heap.size)]).run Tryd.prog (wr.alloc ob) = .ok (.int .i64 ns.length) (wr.alloc ob) := fun ob ty => by rw [(hM ob).own.len Tryd.underlying82 ty, HR.mp.size]
      have hnl := HR.le
      have hnn := HR.mp.le
      have hsz := HR.mp.size
      rw [dS] at HE
      replace HR := Aside0.mk HR
      replace hM := Aside0.mk hM
      replace hsz := Aside0.mk hsz
      replace hkey := Aside0.mk hkey
      clear hsd hsx hd
      by_cases k6 : x.f0 = 6
      case neg =>
        rw [if_neg k6] at HE
        have k6' : (x.f0 != 6) = true := by simp [k6]
        replace HE := Aside0.mk HE
        clear k6 hlook
        go_wp2
        go_roundg (gk - 1)
        case measure => omega
        case rel => exact ⟨i + 1, ns, n, D, by omega, by simp, HE.out, hM.out _, blk_alloc HR.out.c _, below_alloc HR.out.bel _, HR.out.le⟩
      rw [if_pos k6] at HE
      have k6' : (x.f0 != 6) = false := by simp [k6]
      clear k6
      cases hi : inN ns x.f2
      case true =>
        rw [hi, if_pos rfl] at HE
        rw [hi] at hlook
        have hr2 := hr.out
        rw [← HE] at hr2
        dsimp only at hr2
        replace HE := Aside0.mk HE
        replace hr2 := Aside0.mk hr2
        go_wp2
        go_ret2
        exact ⟨by rw [hr2.out]; rfl, below_alloc HR.out.bel _⟩
      rw [hi, if_neg (by decide)] at HE
      rw [hi] at hlook
      by_cases h64 : ns.length = 64
      · rw [if_pos h64] at HE
        have hr2 := hr.out
        rw [← HE] at hr2
        dsimp only at hr2
        have h64' : ((ns.length : Int) == 64) = true := by simp [h64]
        replace HE := Aside0.mk HE
        replace hr2 := Aside0.mk hr2
        clear h64
        go_wp2
        go_ret2
        exact ⟨by rw [hr2.out]; rfl, below_alloc HR.out.bel _⟩
      · rw [if_neg h64] at HE
        have h64' : ((ns.length : Int) == 64) = false := by rw [beq_eq_false_iff_ne]; omega
        replace HE := Aside0.mk HE
        have hlt64 : ns.length < 64 := by omega
        clear h64
        obtain ⟨w2, hrun, hO2, hg2⟩ := ((hM.out (.cells #[.int .i64 x.f0, .int .i64 x.f1, .string x.f2, .string x.f3, .bool x.f4, .bool x.f5, .slice A6 x.f6.length c6, .slice A7 x.f7.length c7] 78)).own).update law9 Tryd.underlying82 (by unfold maxLen; omega) hkey.out (plainElem_bool Tryd.underlying4 true)
        have hM2 := Aside0.mk ((hM.out (.cells #[.int .i64 x.f0, .int .i64 x.f1, .string x.f2, .string x.f3, .bool x.f4, .bool x.f5, .slice A6 x.f6.length c6, .slice A7 x.f7.length c7] 78)).put x.f2 hi hO2)
        replace hg2 := Aside0.mk hg2
        clear hO2
        go_wp2
        go_roundg (gk - 1)
        case measure => omega
        case rel =>
          exact ⟨i + 1, ns ++ [x.f2], n + 1, _, by omega, by simp, HE.out, hM2.out, blk_grown (blk_alloc HR.out.c _) hg2.out (by simp), (below_alloc HR.out.bel _).grown hg2.out (by rw [World.size_alloc]; have := HR.out.bel.size; omega) (fun k hk => by cases hk; exact Nat.le_refl _), by rw [List.length_append, List.length_singleton]; omega⟩
    · have hl : decide ((i : Int) < (l.length : Int)) = false := decide_eq_false (by omega)
      have HE := HR.eq
      rw [List.drop_eq_nil_of_le (by omega), dS] at HE
      have hr2 := hr.out
      rw [← HE] at hr2
      dsimp only at hr2
      have hcl := hcalls.out w.heap.size (w.heap.size + 1) wr.heap.size (wr.heap.size + 1) ns n D 0
      have hCI : CIn w w.heap.size (w.heap.size + 1) wr.heap.size (wr.heap.size + 1) ns n D 0 0 ((wr.alloc (.cells #[.int .i64 0] 3)).alloc (.cells #[.int .i64 0] 24)) :=
        ⟨(HR.mp.move (Below.heap_alloc _ _ _ HR.mp.own.lt)).move (Below.heap_alloc _ _ _ (by rw [World.size_alloc]; have := HR.mp.own.lt; omega)), blk_alloc (blk_alloc HR.c _) _, blk_alloc (blk_new _ _) _, blk_n1 _ _ _, below_alloc (below_alloc HR.bel _) _, by have := HR.bel.size; omega⟩
      have hmf : ∀ (fn : Fn) (first cap : Array Value) (w : World), (Instr.makeFunc fn first cap).run Tryd.prog w = .ok (.func fn first cap) w := fun _ _ _ _ => rfl
      unfold callsR at hcl
      replace hcl := Aside0.mk hcl
      replace hCI := Aside0.mk hCI
      clear hcalls hC HR hcc
      cases hcs : cS l ns with
      | some a =>
        rw [hcs] at hcl hr2
        dsimp only at hcl hr2
        replace hr2 := Aside0.mk hr2
        go_wp2_with (go_at_call 36; (with_reducible refine (hcl.out _ hCI.out).mono ?_); rintro e_ w3 ⟨rfl, h3, -⟩; have ht : w3.cell? ⟨wr.heap.size, 0, none⟩ = some (.int .i64 a) := blk_cell h3.t 0; have he : w3.cell? ⟨wr.heap.size + 1, 0, none⟩ = some (.int .i64 11) := blk_cell h3.e 0; replace h3 := Aside0.mk h3)
        go_quiet (fail)
        go_wp2
        go_ret2
        exact ⟨by rw [hr2.out]; rfl, by repeat (first | exact h3.out.bel | apply pw_below_drewN | apply below_drew1)⟩
      | none =>
        rw [hcs] at hcl hr2
        dsimp only at hcl hr2
        replace hr2 := Aside0.mk hr2
        go_wp2_with (go_at_call 36; (with_reducible refine (hcl.out _ hCI.out).mono ?_); rintro e_ w3 ⟨rfl, h3, -⟩; have ht : w3.cell? ⟨wr.heap.size, 0, none⟩ = some (.int .i64 0) := blk_cell h3.t 0; have he : w3.cell? ⟨wr.heap.size + 1, 0, none⟩ = some (.int .i64 0) := blk_cell h3.e 0; replace h3 := Aside0.mk h3)
        go_quiet (fail)
        go_wp2
        go_ret2
        exact ⟨by rw [hr2.out]; rfl, by repeat (first | exact h3.out.bel | apply pw_below_drewN | apply below_drew1)⟩
end Go.Proofs.YtkpnfejfbmandaaDoor.Px
namespace Go.Proofs.YtkpnfejfbmandaaDoor.Px
open Go.RowKit Go.Proofs.YtkpnfejfbmandaaDoorW.PrintWords Go.Proofs.YtkpnfejfbmandaaDoorW.PrintLast Go.Proofs.YtkpnfejfbmandaaDoorW.PrintMore
set_option linter.unusedVariables false
set_option linter.unusedSimpArgs false
def inferE (l : List S78) : IS := if h : l = [] then (iL l hz ([], 0, 0)).2 else expI (iL l hz ([], 0, 0)).2 (l.getLast h).f1 (iL l hz ([], 0, 0)).1 hz 16
def inferF (l : List S78) : IS := if (inferE l).2.2 = 0 then ((inferE l).1, 0, 0) else ([], (inferE l).2.1, (inferE l).2.2)
set_option maxHeartbeats 4000000 in
set_option maxRecDepth 100000 in
theorem infer_any (l : List S78) (A : Option Addr) (c : Nat) (w : World) (hC : Kd.C k78 w A l.length l) (hc : l.length ≤ c) (hsm : smL l) (hlen : nL l ≤ 1000000) :
    Calls Tryd.prog 17 #[.slice A l.length c] w fun e w' => ∃ v, e = .returned (.tuple #[v, .int .i64 (inferF l).2.1, .int .i64 (inferF l).2.2]) ∧ Kd.R (Kd.int .i64) 3 w' w.heap.size (fun _ => True) v (inferF l).1 ∧ Below w.heap.size w w' := by
  have hcall := Aside0.mk (fun W (h : AIn w w.heap.size (.slice none 0 0) ([], 0, 0) W) => infer_list l w w.heap.size (.slice none 0 0) ([], 0, 0) ⟨0, ⟨#[]⟩, ⟨#[]⟩, ⟨#[]⟩⟩ A c W h hC hc hz_gd hsm (by simpa using hlen))
  have hS : AIn w w.heap.size (.slice none 0 0) ([], 0, 0) (w.alloc (.cells #[.slice none 0 0, .int .i64 0, .int .i64 0] 86)) := ⟨blk_new _ _, Kd.R_nil _ _ _ _ _, (Below.refl _ _).alloc (Nat.le_refl _) _, Nat.le_refl _⟩
  obtain ⟨r, hr⟩ : ∃ r, r = inferF l := ⟨_, rfl⟩
  rw [← hr]
  unfold inferF inferE at hr
  rw [hzE] at hr
  generalize iL l ⟨0, ⟨#[]⟩, ⟨#[]⟩, ⟨#[]⟩⟩ ([], 0, 0) = R at *
  obtain ⟨sx, tx⟩ := R
  dsimp only at hcall hr
  replace hr := Aside0.mk hr
  replace hC := Aside0.mk hC
  replace hS := Aside0.mk hS
  have hll : l.length ≤ 1000000 := by have := nL_len l; omega
  clear hsm hlen
  go_enter Tryd.func17, Tryd.ntmps17
  go_wp2_with fail
  refine (hcall.out _ hS.out).mono ?_
  rintro e w1 ⟨rfl, v1, h1⟩
  clear hcall
  replace h1 := Aside0.mk h1
  by_cases hn : l = []
  · subst hn
    have hR := hr.out
    rw [dif_pos rfl] at hR
    clear hr
    obtain ⟨e1, e2, e3⟩ := tx
    dsimp only at hR
    obtain ⟨⟨c0, c1, c2⟩, -⟩ := h1.out.st.cells
    dsimp only at c1 c2
    have hl : decide ((0 : Int) < (([] : List S78).length : Int)) = false := rfl
    have hlt1 := blk_lt h1.out.st.blk
    by_cases hE : e3 = 0
    · rw [if_pos hE] at hR
      subst hR
      have hE' : (e3 != 0) = false := by simp [hE]
      replace hE := Aside0.mk hE
      go_wp2
      go_ret3
      exact ⟨_, rfl, Kd.R_mono (h1.out.st.alloc _).own (fun _ _ => trivial), (h1.out.st.alloc _).bel⟩
    · rw [if_neg hE] at hR
      subst hR
      have hE' : (e3 != 0) = true := by simp [hE]
      replace hE := Aside0.mk hE
      go_wp2
      go_quiet (fail)
      go_wp2
      go_ret3
      exact ⟨_, rfl, Kd.R_nil _ _ _ _ _, by repeat (first | exact (h1.out.st.alloc _).bel | apply pw_below_drewN | apply below_drew1)⟩
  · have hpos : 0 < l.length := List.length_pos_iff.2 hn
    have hl : decide ((0 : Int) < (l.length : Int)) = true := decide_eq_true (by omega)
    obtain ⟨m, hm⟩ : ∃ m, l.length = m + 1 := ⟨l.length - 1, by omega⟩
    have hw1 : IntKind.i64.wrap ((l.length : Int) - 1) = (m : Int) := by rw [IntKind.wrap_i64]; omega
    have hm0 : (0 : Int) ≤ (m : Int) := by omega
    have hm1 : (m : Int) < (l.length : Int) := by omega
    obtain ⟨ad, A6, c6, A7, c7, rfl, x0, x1, x2, x3, x4, x5, x6, x7, -⟩ := at_T78 hC.out (m : Int) hm0 hm1
    have hrd : rd_T78 l (m : Int) = l.getLast hn := by unfold rd_T78; rw [List.getLast_eq_getElem]; simp [List.getD, hm]
    simp only [Int.toNat_natCast] at x0 x1 x2 x3 x4 x5 x6 x7
    rw [hrd] at x0 x1 x2 x3 x4 x5 x6 x7
    replace hm := Aside0.mk hm
    have X := Aside0.mk (And.intro x0 (And.intro x1 (And.intro x2 (And.intro x3 (And.intro x4 (And.intro x5 (And.intro x6 x7)))))))
    replace hr := hr.out
    rw [dif_neg hn] at hr
    generalize l.getLast hn = x at *
    have up : ∀ {a : Addr} {u : Value}, w.cell? a = some u → w1.cell? a = some u := fun h => (h1.out.st.bel.cell (World.block_lt_of_cell? _ _ h)).trans h
    have hab := World.block_lt_of_cell? _ _ (up x0)
    have hab0 := World.block_lt_of_cell? _ _ x0
    have b0 := World.block_lt_of_cell? _ _ (up x1)
    replace x0 := up x0
    replace x1 := up x1
    replace x2 := up x2
    replace x3 := up x3
    replace x4 := up x4
    replace x5 := up x5
    replace x6 := up x6
    replace x7 := up x7
    obtain ⟨W2, e2⟩ : ∃ W2, W2 = w1.alloc (.cells #[.int .i64 sx.c, .string sx.n, .string sx.a, .string sx.p] 88) := ⟨_, rfl⟩
    have h2 := Aside0.mk (show AOut w (w.alloc (.cells #[.slice none 0 0, .int .i64 0, .int .i64 0] 86)) w.heap.size (.slice none 0 0) v1 tx W2 from by rw [e2]; exact h1.out.alloc _)
    have hbx := Aside0.mk (show W2.heap[w1.heap.size]? = some (.cells (ag4 sx) 88 (0, 0)) from by rw [e2]; exact blk_new _ _)
    have up2 : ∀ {a : Addr} {u : Value}, w1.cell? a = some u → W2.cell? a = some u := fun h => by rw [e2]; exact pw_cell_below ((Below.refl _ _).alloc (Nat.le_refl _) _) h
    replace x0 := up2 x0
    replace x1 := up2 x1
    replace x2 := up2 x2
    replace x3 := up2 x3
    replace x4 := up2 x4
    replace x5 := up2 x5
    replace x6 := up2 x6
    replace x7 := up2 x7
    have y0 : W2.cell? ⟨w1.heap.size, 0, none⟩ = some (.int .i64 sx.c) := blk_cell hbx.out 0
    have y1 : W2.cell? ⟨w1.heap.size, 1, none⟩ = some (.string sx.n) := blk_cell hbx.out 1
    have y2 : W2.cell? ⟨w1.heap.size, 2, none⟩ = some (.string sx.a) := blk_cell hbx.out 2
    have y3 : W2.cell? ⟨w1.heap.size, 3, none⟩ = some (.string sx.p) := blk_cell hbx.out 3
    have hgl := blk_lt h1.out.st.blk
    replace hr := Aside0.mk hr
    go_upto_region 4 with fail
    rw [← e2]
    clear e2 up up2 hC hS hrd h1
    go_region_held3 (fun w' => w'.cell? (ad.add (m * 8)) = some (.int .i64 x.f0) ∧ w'.cell? ⟨(ad.add (m * 8)).block, (ad.add (m * 8)).off + 1, none⟩ = some (.int .i64 x.f1) ∧ w'.cell? ⟨(ad.add (m * 8)).block, (ad.add (m * 8)).off + 2, none⟩ = some (.string x.f2) ∧ w'.cell? ⟨(ad.add (m * 8)).block, (ad.add (m * 8)).off + 3, none⟩ = some (.string x.f3) ∧ w'.cell? ⟨(ad.add (m * 8)).block, (ad.add (m * 8)).off + 4, none⟩ = some (.bool x.f4) ∧ w'.cell? ⟨(ad.add (m * 8)).block, (ad.add (m * 8)).off + 5, none⟩ = some (.bool x.f5) ∧ w'.cell? ⟨(ad.add (m * 8)).block, (ad.add (m * 8)).off + 6, none⟩ = some (.slice A6 x.f6.length c6) ∧ w'.cell? ⟨(ad.add (m * 8)).block, (ad.add (m * 8)).off + 7, none⟩ = some (.slice A7 x.f7.length c7) ∧ w'.cell? ⟨w1.heap.size, 0, none⟩ = some (.int .i64 sx.c) ∧ w'.cell? ⟨w1.heap.size, 1, none⟩ = some (.string sx.n) ∧ w'.cell? ⟨w1.heap.size, 2, none⟩ = some (.string sx.a) ∧ w'.cell? ⟨w1.heap.size, 3, none⟩ = some (.string sx.p)) (exact ⟨x0, x1, x2, x3, x4, x5, x6, x7, y0, y1, y2, y3⟩) (first | (go_at_call 39; (with_reducible refine (expect_any x.f0 x.f1 x.f2 x.f3 x.f4 x.f5 _ _ sx ⟨0, ⟨#[]⟩, ⟨#[]⟩, ⟨#[]⟩⟩ 16 _ h2.out.st.drew).mono ?_); rintro e w3 ⟨rfl, h3⟩; have h4 := Aside0.mk (h2.out.drew.call h3); have up3 : ∀ {a : Addr} {u : Value}, w.cell? a = some u → w3.cell? a = some u := fun h => (h3.st.bel.cell (World.block_lt_of_cell? _ _ h)).trans h; have hb3 := Aside0.mk (h3.box h2.out.st.drew hbx.out (by decide) (by omega)); clear h3 x0 x1 x2 x3 x4 x5 x6 x7 y0 y1 y2 y3; obtain ⟨x0, x1, x2, x3, x4, x5, x6, x7⟩ := X.out; replace x0 := up3 x0; replace x1 := up3 x1; replace x2 := up3 x2; replace x3 := up3 x3; replace x4 := up3 x4; replace x5 := up3 x5; replace x6 := up3 x6; replace x7 := up3 x7; have y0 : w3.cell? ⟨w1.heap.size, 0, none⟩ = some (.int .i64 sx.c) := blk_cell hb3.out 0; have y1 : w3.cell? ⟨w1.heap.size, 1, none⟩ = some (.string sx.n) := blk_cell hb3.out 1; have y2 : w3.cell? ⟨w1.heap.size, 2, none⟩ = some (.string sx.a) := blk_cell hb3.out 2; have y3 : w3.cell? ⟨w1.heap.size, 3, none⟩ = some (.string sx.p) := blk_cell hb3.out 3))
    clear x0 x1 x2 x3 x4 x5 x6 x7 y0 y1 y2 y3 X
    have hR := hr.out
    clear hr
    generalize expI tx x.f1 sx ⟨0, ⟨#[]⟩, ⟨#[]⟩, ⟨#[]⟩⟩ 16 = E at *
    obtain ⟨e1, e2, e3⟩ := E
    dsimp only at hR
    obtain ⟨⟨c0, c1, c2⟩, -⟩ := h4.out.st.cells
    dsimp only at c1 c2
    by_cases hE : e3 = 0
    · rw [if_pos hE] at hR
      subst hR
      have hE' : (e3 != 0) = false := by simp [hE]
      replace hE := Aside0.mk hE
      go_wp2
      go_ret3
      exact ⟨_, rfl, Kd.R_mono h4.out.st.own (fun _ _ => trivial), h4.out.st.bel⟩
    · rw [if_neg hE] at hR
      subst hR
      have hE' : (e3 != 0) = true := by simp [hE]
      replace hE := Aside0.mk hE
      go_wp2
      go_quiet (fail)
      go_wp2
      go_ret3
      exact ⟨_, rfl, Kd.R_nil _ _ _ _ _, by repeat (first | exact h4.out.st.bel | apply pw_below_drewN | apply below_drew1)⟩
end Go.Proofs.YtkpnfejfbmandaaDoor.Px
