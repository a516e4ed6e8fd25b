import Derived.Test.YtkpnfejfbmandaaDoorCU16
import Derived.Maps.OwnSet
import Derived.Maps.OwnOps
import Derived.Defers
/- compile: what the compiler generates for the nodes; contracts; text and the kinds that generate nothing. -/
namespace Go.Proofs.YtkpnfejfbmandaaDoor.Px
open Go.RowKit Go.Proofs.YtkpnfejfbmandaaDoorW.PrintWords Go.Proofs.YtkpnfejfbmandaaDoorW.PrintLast Go.Proofs.YtkpnfejfbmandaaDoorW.PrintMore
open Go.Maps Go.ChangeMaps Go.MapKept
set_option linter.unusedVariables false
set_option linter.unusedSimpArgs false
abbrev e0 : ByteArray := ⟨#[]⟩
def KS.emit (st : KS) (x : S40) : KS := ⟨st.code ++ [x], st.left, st.calls⟩
def KS.land (st : KS) (i : Nat) : KS := ⟨setTo st.code i st.code.length, st.left, st.calls⟩
mutual
def gL : List S78 → KS → KS
  | [], st => st
  | x :: xs, st => gL xs (gN x st)
def gN : S78 → KS → KS
  | ⟨k, _, S, nm, f4, f5, b, l⟩, st =>
    if k = 0 then st.emit ⟨0, S, e0, false, 0, 0⟩
    else if k = 1 then ⟨st.code ++ [⟨1, e0, nm, false, rdOf 0 st.left 0, 0⟩], st.left.drop 1, st.calls⟩
    else if k = 2 then
      (if f5 then (((gL l (((gL b (st.emit ⟨2, e0, nm, false, 0, 0⟩)).emit ⟨3, e0, e0, false, 0, 0⟩).land st.code.length)).land (gL b (st.emit ⟨2, e0, nm, false, 0, 0⟩)).code.length))
      else (gL b (st.emit ⟨2, e0, nm, false, 0, 0⟩)).land st.code.length)
    else if k = 3 then ((gL b (st.emit ⟨4, e0, nm, false, 0, 0⟩)).emit ⟨5, e0, e0, false, 0, (st.code.length : Int) + 1⟩).land st.code.length
    else if k = 4 then ⟨st.code ++ [⟨6, e0, nm, f4, 0, 0⟩], st.left, st.calls ++ [((st.code.length : Int), S)]⟩
    else if k = 5 then st.emit ⟨8, e0, e0, false, 0, 0⟩
    else st
end
theorem gN_at (x : S78) (st : KS) : gN x st =
    if x.f0 = 0 then st.emit ⟨0, x.f2, e0, false, 0, 0⟩
    else if x.f0 = 1 then ⟨st.code ++ [⟨1, e0, x.f3, false, rdOf 0 st.left 0, 0⟩], st.left.drop 1, st.calls⟩
    else if x.f0 = 2 then
      (if x.f5 then (((gL x.f7 (((gL x.f6 (st.emit ⟨2, e0, x.f3, false, 0, 0⟩)).emit ⟨3, e0, e0, false, 0, 0⟩).land st.code.length)).land (gL x.f6 (st.emit ⟨2, e0, x.f3, false, 0, 0⟩)).code.length))
      else (gL x.f6 (st.emit ⟨2, e0, x.f3, false, 0, 0⟩)).land st.code.length)
    else if x.f0 = 3 then ((gL x.f6 (st.emit ⟨4, e0, x.f3, false, 0, 0⟩)).emit ⟨5, e0, e0, false, 0, (st.code.length : Int) + 1⟩).land st.code.length
    else if x.f0 = 4 then ⟨st.code ++ [⟨6, e0, x.f3, x.f4, 0, 0⟩], st.left, st.calls ++ [((st.code.length : Int), x.f2)]⟩
    else if x.f0 = 5 then st.emit ⟨8, e0, e0, false, 0, 0⟩
    else st := by cases x; rw [gN]
mutual
/-- How many escapers the nodes take. -/
def eL : List S78 → Nat
  | [] => 0
  | x :: xs => eN x + eL xs
def eN : S78 → Nat
  | ⟨k, _, _, _, _, f5, b, l⟩ => if k = 1 then 1 else if k = 2 then eL b + (if f5 then eL l else 0) else if k = 3 then eL b else 0
end
mutual
theorem gL_left : ∀ (l : List S78) (st : KS), (gL l st).left = st.left.drop (eL l)
  | [], st => by simp [gL, eL]
  | x :: xs, st => by rw [gL, gL_left xs, gN_left x, List.drop_drop, eL]
theorem gN_left : ∀ (x : S78) (st : KS), (gN x st).left = st.left.drop (eN x)
  | ⟨k, at_, S, nm, f4, f5, b, l⟩, st => by
    rw [gN, eN]
    by_cases h0 : k = 0
    · simp [h0, KS.emit]
    by_cases h1 : k = 1
    · simp [h1]
    by_cases h2 : k = 2
    · cases f5 <;> simp [h2, KS.emit, KS.land, gL_left b, gL_left l]
    by_cases h3 : k = 3
    · simp [h3, KS.emit, KS.land, gL_left b]
    by_cases h4 : k = 4
    · simp [h4]
    by_cases h5 : k = 5
    · simp [h5, KS.emit]
    simp [h0, h1, h2, h3, h4, h5]
end
mutual
theorem gL_len : ∀ (l : List S78) (st : KS), st.code.length ≤ (gL l st).code.length ∧ (gL l st).code.length ≤ st.code.length + 2 * nL l
  | [], st => by simp [gL, nL]
  | x :: xs, st => by
    have h1 := gN_len x st
    have h2 := gL_len xs (gN x st)
    rw [gL, nL_cons]; omega
theorem gN_len : ∀ (x : S78) (st : KS), st.code.length ≤ (gN x st).code.length ∧ (gN x st).code.length ≤ st.code.length + 2 * nN x
  | ⟨k, at_, S, nm, f4, f5, b, l⟩, st => by
    rw [gN, nN_eq]
    by_cases h0 : k = 0
    · simp [h0, KS.emit]; omega
    by_cases h1 : k = 1
    · simp [h1]; omega
    by_cases h2 : k = 2
    · have hb := gL_len b (st.emit ⟨2, e0, nm, false, 0, 0⟩)
      cases f5
      · simp only [h2, KS.emit, KS.land, setTo_length, List.length_append, List.length_singleton, if_true, if_false, Bool.false_eq_true, show ((2 : Int) = 0) = False by decide, show ((2 : Int) = 1) = False by decide] at hb ⊢; omega
      · have hl := gL_len l (((gL b (st.emit ⟨2, e0, nm, false, 0, 0⟩)).emit ⟨3, e0, e0, false, 0, 0⟩).land st.code.length)
        simp only [h2, KS.emit, KS.land, setTo_length, List.length_append, List.length_singleton, if_true, if_false, show ((2 : Int) = 0) = False by decide, show ((2 : Int) = 1) = False by decide] at hb hl ⊢; omega
    by_cases h3 : k = 3
    · have hb := gL_len b (st.emit ⟨4, e0, nm, false, 0, 0⟩)
      simp only [h3, KS.emit, KS.land, setTo_length, List.length_append, List.length_singleton, if_true, if_false, show ((3 : Int) = 0) = False by decide, show ((3 : Int) = 1) = False by decide, show ((3 : Int) = 2) = False by decide] at hb ⊢; omega
    by_cases h4 : k = 4
    · simp [h4]; omega
    by_cases h5 : k = 5
    · simp [h5, KS.emit]; omega
    simp [h0, h1, h2, h3, h4, h5]
end
theorem law3 : Keyed Tryd.prog 3 := Maps.int_keyed Tryd.underlying3
/-- The calls as a map's data. -/
def mpD (l : List (Int × ByteArray)) : DataW Unit := l.foldl (fun D p => D.put (.int .i64 p.1) (.lit (.string p.2.data.toList))) (.map [])
/-- Block b is the map of the calls. -/
def MpC (w : World) (b : Nat) (l : List (Int × ByteArray)) : Prop := w.ownsMap Tryd.prog 3 (plainElem Tryd.prog 9) b l.length (mpD l)
theorem MpC.at_ {w b l} (h : MpC w b l) : ∃ es clock, w.heap[b]? = some (.map es clock) := by
  obtain ⟨es, clock, h1, -⟩ := h
  exact ⟨es, clock, h1⟩
theorem MpC.move {w w1 b l} (h : MpC w b l) (hb : w1.heap[b]? = w.heap[b]?) : MpC w1 b l := by
  obtain ⟨es, clock, h1, h2, h3, h4⟩ := h
  exact ⟨es, clock, hb.trans h1, h2, h3, h4⟩
theorem MpC.lt {w b l} (h : MpC w b l) : b < w.heap.size := by
  obtain ⟨es, clock, h1⟩ := h.at_
  exact (Array.getElem?_eq_some_iff.1 h1).1
theorem MpC.alloc {w b l} (h : MpC w b l) (o : Obj) : MpC (w.alloc o) b l := h.move (Below.heap_alloc w o b h.lt)
theorem MpC.drew {w b l} (h : MpC w b l) : MpC w.drew b l := h.move rfl
theorem MpC.ne_g {w b l w0 g b1 b2 v code A c left} (h : MpC w b l) (hS : KIn w0 g b1 b2 v code A c left w) : b ≠ g := by
  rintro rfl
  obtain ⟨es, clock, h1⟩ := h.at_
  rw [hS.blk] at h1
  cases h1
theorem MpC.ne_row {w b l w0 g b1 b2 v code A c left} (h : MpC w b l) (hS : KIn w0 g b1 b2 v code A c left w) : some b ≠ v.ownBlock := by
  intro e
  obtain ⟨es, clock, h1⟩ := h.at_
  obtain ⟨_, inner, ho, _⟩ := hS.own
  rcases ho.2 with ⟨rfl, _⟩ | ⟨g', cap, cur, rfl, _, hh, _⟩
  · cases e
  · obtain rfl : b = g' := by simpa [Value.ownBlock] using e
    rw [hh] at h1
    cases h1
theorem MpC.kept {w b l w0 g b1 b2 v v2 code A c left code2 A2 c2 left2 W} (h : MpC w b l) (hS : KIn w0 g b1 b2 v code A c left w) (hO : KOut w0 w g b1 b2 none v v2 code2 A2 c2 left2 W) : MpC W b l :=
  h.move (hO.keep.2 b h.lt (h.ne_g hS) (by simp) (h.ne_row hS))
/-- The contract of a node. -/
abbrev gNode.Con (x : S78) : Prop := ∀ (w0 : World) (g b1 b2 : Nat) (v : Value) (st : KS) (A A6 A7 : Option Addr) (c c6 c7 : Nat) (w : World), KIn w0 g b1 b2 v st.code A c st.left w → MpC w b2 st.calls → w0.heap.size ≤ b2 → Kd.C k78 w0 A6 x.f6.length x.f6 → x.f6.length ≤ c6 → Kd.C k78 w0 A7 x.f7.length x.f7 → x.f7.length ≤ c7 → smN x → eN x ≤ st.left.length → st.calls.length + nN x ≤ 1000000 → st.code.length + 2 * nN x ≤ 1000000 →
  Calls Tryd.prog 80 #[.pointer (some ⟨g, 0, none⟩), .agg #[.int .i64 x.f0, .int .i64 x.f1, .string x.f2, .string x.f3, .bool x.f4, .bool x.f5, .slice A6 x.f6.length c6, .slice A7 x.f7.length c7]] w fun e w' =>
    e = .returned (.tuple #[]) ∧ ∃ v' A' c', KOut w0 w g b1 b2 (some b2) v v' (gN x st).code A' c' (gN x st).left w' ∧ MpC w' b2 (gN x st).calls
abbrev gList.Con (l : List S78) : Prop := ∀ (w0 : World) (g b1 b2 : Nat) (v : Value) (st : KS) (A B : Option Addr) (c cb : Nat) (w : World), KIn w0 g b1 b2 v st.code A c st.left w → MpC w b2 st.calls → w0.heap.size ≤ b2 → Kd.C k78 w0 B l.length l → l.length ≤ cb → smL l → eL l ≤ st.left.length → st.calls.length + nL l ≤ 1000000 → st.code.length + 2 * nL l ≤ 1000000 →
  Calls Tryd.prog 58 #[.pointer (some ⟨g, 0, none⟩), .slice B l.length cb] w fun e w' =>
    e = .returned (.tuple #[]) ∧ ∃ v' A' c', KOut w0 w g b1 b2 (some b2) v v' (gL l st).code A' c' (gL l st).left w' ∧ MpC w' b2 (gL l st).calls
set_option maxHeartbeats 4000000 in
set_option maxRecDepth 100000 in
theorem gNode.text (x : S78) (hk : x.f0 = 0) : gNode.Con x := by
  intro w0 g b1 b2 v st A A6 A7 c c6 c7 w hS hM hb2 hC6 hc6 hC7 hc7 hsm he hlc hlen
  rw [gN_at, if_pos hk]
  rw [hk]
  have hcl : st.code.length ≤ 1000000 := by omega
  have hem := Aside0.mk (fun o => emit_any ⟨0, x.f2, ⟨#[]⟩, false, 0, 0⟩ (w.alloc o) (hS.alloc o) hcl)
  have hS1 := Aside0.mk (fun o => (hS.out (mb := some b2)).alloc o)
  have hM1 := Aside0.mk (fun o => hM.alloc o)
  have hSA := Aside0.mk (fun o => hS.alloc o)
  clear hS hM hC6 hC7 hsm
  go_enter Tryd.func80, Tryd.ntmps80
  go_wp2_with (go_at_call 59; refine (hem.out _).mono ?_; rintro e w2 ⟨rfl, v2, h2⟩; have hMk := Aside0.mk ((hM1.out _).kept (hSA.out _) h2); replace h2 := Aside0.mk ((hS1.out _).call (h2.more _)))
  all_goals exact Go.Great.bodyPost_end0 rfl rfl ⟨rfl, _, _, _, h2.out, hMk.out⟩
end Go.Proofs.YtkpnfejfbmandaaDoor.Px

/- compile: a node of kind 5, of no kind, of kind 1. -/
namespace Go.Proofs.YtkpnfejfbmandaaDoor.Px
open Go.RowKit Go.Proofs.YtkpnfejfbmandaaDoorW.PrintWords Go.Proofs.YtkpnfejfbmandaaDoorW.PrintLast Go.Proofs.YtkpnfejfbmandaaDoorW.PrintMore
open Go.Maps Go.ChangeMaps Go.MapKept
set_option linter.unusedVariables false
set_option linter.unusedSimpArgs false
set_option maxHeartbeats 4000000 in
set_option maxRecDepth 100000 in
theorem gNode.five (x : S78) (hk : x.f0 = 5) : gNode.Con x := by
  intro w0 g b1 b2 v st A A6 A7 c c6 c7 w hS hM hb2 hC6 hc6 hC7 hc7 hsm he hlc hlen
  rw [gN_at, if_neg (by rw [hk]; decide), if_neg (by rw [hk]; decide), if_neg (by rw [hk]; decide), if_neg (by rw [hk]; decide), if_neg (by rw [hk]; decide), if_pos hk]
  rw [hk]
  have hcl : st.code.length ≤ 1000000 := by omega
  have hem := Aside0.mk (fun o => emit_any ⟨8, ⟨#[]⟩, ⟨#[]⟩, false, 0, 0⟩ (w.alloc o) (hS.alloc o) hcl)
  have hS1 := Aside0.mk (fun o => (hS.out (mb := some b2)).alloc o)
  have hM1 := Aside0.mk (fun o => hM.alloc o)
  have hSA := Aside0.mk (fun o => hS.alloc o)
  clear hS hM hC6 hC7 hsm
  go_enter Tryd.func80, Tryd.ntmps80
  go_wp2_with (go_at_call 59; refine (hem.out _).mono ?_; rintro e w2 ⟨rfl, v2, h2⟩; have hMk := Aside0.mk ((hM1.out _).kept (hSA.out _) h2); replace h2 := Aside0.mk ((hS1.out _).call (h2.more _)))
  all_goals exact Go.Great.bodyPost_end0 rfl rfl ⟨rfl, _, _, _, h2.out, hMk.out⟩
set_option maxHeartbeats 4000000 in
set_option maxRecDepth 100000 in
theorem gNode.other (x : S78) (hk : x.f0 ≠ 0 ∧ x.f0 ≠ 1 ∧ x.f0 ≠ 2 ∧ x.f0 ≠ 3 ∧ x.f0 ≠ 4 ∧ x.f0 ≠ 5) : gNode.Con x := by
  intro w0 g b1 b2 v st A A6 A7 c c6 c7 w hS hM hb2 hC6 hc6 hC7 hc7 hsm he hlc hlen
  obtain ⟨k0, k1, k2, k3, k4, k5⟩ := hk
  rw [gN_at, if_neg k0, if_neg k1, if_neg k2, if_neg k3, if_neg k4, if_neg k5]
  have e0 : (x.f0 == 0) = false := by simp [k0]
  have e1 : (x.f0 == 1) = false := by simp [k1]
  have e2 : (x.f0 == 2) = false := by simp [k2]
  have e3 : (x.f0 == 3) = false := by simp [k3]
  have e4 : (x.f0 == 4) = false := by simp [k4]
  have e5 : (x.f0 == 5) = false := by simp [k5]
  have hS1 := Aside0.mk (fun o => (hS.out (mb := some b2)).alloc o)
  have hM1 := Aside0.mk (fun o => hM.alloc o)
  clear hS hM hC6 hC7 hsm k0 k1 k2 k3 k4 k5
  go_enter Tryd.func80, Tryd.ntmps80
  go_wp2_with fail
  all_goals exact Go.Great.bodyPost_end0 rfl rfl ⟨rfl, _, _, _, hS1.out _, hM1.out _⟩
/-- The left escapers, one less. -/
theorem KIn.less {w0 g b1 b2 v code w} {A : Option Addr} {c : Nat} {left : List Int} (h : KIn w0 g b1 b2 v code A c left w) (hl : 0 < left.length) :
    KIn w0 g b1 b2 v code (if c = 1 then A else A.map (·.add 1)) (c - 1) (left.drop 1) (w.setCell ⟨g, 2, none⟩ (.slice (if c = 1 then A else A.map (·.add 1)) (left.length - 1) (c - 1))) := by
  refine ⟨?_, Kd.R_far h.own (fun _ h => h) _, Kd.C_drop (m := 1) h.lf (by omega) h.le, by rw [List.length_drop]; have := h.le; omega, h.bel.setCell h.ge _, h.ge⟩
  have := blk_set h.blk 2 (.slice (if c = 1 then A else A.map (·.add 1)) (left.length - 1) (c - 1))
  rw [List.length_drop]
  exact this
theorem KOut.less {w0 w g b1 b2 mb v0 v code W} {A : Option Addr} {c : Nat} {left : List Int} (h : KOut w0 w g b1 b2 mb v0 v code A c left W) (hl : 0 < left.length) :
    KOut w0 w g b1 b2 mb v0 v code (if c = 1 then A else A.map (·.add 1)) (c - 1) (left.drop 1) (W.setCell ⟨g, 2, none⟩ (.slice (if c = 1 then A else A.map (·.add 1)) (left.length - 1) (c - 1))) := ⟨h.st.less hl, h.keep.set _ _, h.row⟩
theorem KOut.boxed {w0 w : World} {g b1 b2 : Nat} {v v2 : Value} {code A c left code2 A2 c2 left2 W} {cs : Array Value} {t k : Nat} (h : KIn w0 g b1 b2 v code A c left w) (hO : KOut w0 w g b1 b2 none v v2 code2 A2 c2 left2 W) (hb : w.heap[k]? = some (.cells cs t (0, 0))) (ht : t ≠ 122) (ht2 : t ≠ 40) : W.heap[k]? = some (.cells cs t (0, 0)) := by
  refine (hO.keep.2 k (blk_lt hb) ?_ (by simp) ?_).trans hb
  · rintro rfl
    rw [h.blk] at hb
    cases hb
    exact ht rfl
  · intro e
    obtain ⟨_, inner, ho, _⟩ := h.own
    rcases ho.2 with ⟨rfl, _⟩ | ⟨g', cap, cur, rfl, _, hh, _⟩
    · cases e
    · obtain rfl : k = g' := by simpa [Value.ownBlock] using e
      rw [hh] at hb
      cases hb
      exact ht2 rfl
end Go.Proofs.YtkpnfejfbmandaaDoor.Px

/- compile: a node of kind 1 (an escaper is taken). -/
namespace Go.Proofs.YtkpnfejfbmandaaDoor.Px
open Go.RowKit Go.Proofs.YtkpnfejfbmandaaDoorW.PrintWords Go.Proofs.YtkpnfejfbmandaaDoorW.PrintLast Go.Proofs.YtkpnfejfbmandaaDoorW.PrintMore
open Go.Maps Go.ChangeMaps Go.MapKept
set_option linter.unusedVariables false
set_option linter.unusedSimpArgs false
set_option maxHeartbeats 1000000 in
set_option maxRecDepth 100000 in
theorem gNode.print (x : S78) (hk : x.f0 = 1) : gNode.Con x := by
  intro w0 g b1 b2 v st A A6 A7 c c6 c7 w hS hM hb2 hC6 hc6 hC7 hc7 hsm he hlc hlen
  rw [gN_at, if_neg (by rw [hk]; decide), if_pos hk]
  rw [hk]
  have hl0 : 0 < st.left.length := by
    have : eN x = 1 := by cases x; simp only at hk; simp [eN, hk]
    omega
  have hcl : st.code.length ≤ 1000000 := by omega
  obtain ⟨ad, rfl, hp0⟩ := Kd.at_int hS.lf 0 (by decide) (by exact_mod_cast hl0)
  replace hp0 : w0.cell? ad = some (.int .i64 (rdOf 0 st.left 0)) := hp0
  have hp1 : w.cell? ad = some (.int .i64 (rdOf 0 st.left 0)) := (hS.bel.cell (World.block_lt_of_cell? _ _ hp0)).trans hp0
  obtain ⟨e, he0⟩ : ∃ e, e = rdOf 0 st.left 0 := ⟨_, rfl⟩
  rw [← he0] at hp0 hp1 ⊢
  replace he0 := Aside0.mk he0
  obtain ⟨W1, e1⟩ : ∃ W1, W1 = w.alloc (.cells #[.int .i64 x.f0, .int .i64 x.f1, .string x.f2, .string x.f3, .bool x.f4, .bool x.f5, .slice A6 x.f6.length c6, .slice A7 x.f7.length c7] 78) := ⟨_, rfl⟩
  have hSW : KIn w0 g b1 b2 v st.code (some ad) c st.left W1 := by rw [e1]; exact hS.alloc _
  have hOW := Aside0.mk (show KOut w0 w g b1 b2 (some b2) v v st.code (some ad) c st.left W1 from by rw [e1]; exact hS.out.alloc _)
  have hMW := Aside0.mk (show MpC W1 b2 st.calls from by rw [e1]; exact hM.alloc _)
  have hbx := Aside0.mk (show W1.heap[w.heap.size]? = some (.cells #[.int .i64 x.f0, .int .i64 x.f1, .string x.f2, .string x.f3, .bool x.f4, .bool x.f5, .slice A6 x.f6.length c6, .slice A7 x.f7.length c7] 78 (0, 0)) from by rw [e1]; exact blk_new _ _)
  have c2 : W1.cell? ⟨g, 2, none⟩ = some (.slice (some ad) st.left.length c) := blk_cell hSW.blk 2
  have n3 : W1.cell? ⟨w.heap.size, 3, none⟩ = some (.string x.f3) := blk_cell hbx.out 3
  have p0 : W1.cell? ad = some (.int .i64 e) := (hSW.bel.cell (World.block_lt_of_cell? _ _ hp0)).trans hp0
  have hl0' : (0 : Int) < (st.left.length : Int) := by exact_mod_cast hl0
  have hem := Aside0.mk (emit_any ⟨1, ⟨#[]⟩, x.f3, false, e, 0⟩ W1.drew hSW.drew hcl)
  have hlec := hS.le
  replace hSW := Aside0.mk hSW
  rw [hk] at e1
  clear hS hM hC6 hC7 hsm
  go_enter Tryd.func80, Tryd.ntmps80
  go_upto_region 5 with fail
  rw [← e1]
  clear e1
  go_region_held3 (fun w' => w'.cell? ⟨g, 2, none⟩ = some (.slice (some ad) st.left.length c) ∧ w'.cell? ⟨w.heap.size, 3, none⟩ = some (.string x.f3) ∧ w'.cell? ad = some (.int .i64 e)) (first | exact ⟨c2, n3, p0⟩ | go_keep) (first | (go_at_call 59; refine hem.out.mono ?_; rintro ee w2 ⟨rfl, v2, h2⟩; have hMk := Aside0.mk (hMW.out.drew.kept hSW.out.drew h2); have hb2 := KOut.boxed hSW.out.drew h2 (show W1.drew.heap[w.heap.size]? = _ from hbx.out) (by decide) (by decide); have hq : w2.cell? ad = some (.int .i64 e) := (h2.st.bel.cell (World.block_lt_of_cell? _ _ hp0)).trans hp0; replace h2 := Aside0.mk (hOW.out.drew.call (h2.more _)); clear c2 n3 p0; have c2 : w2.cell? ⟨g, 2, none⟩ = some (.slice (some ad) st.left.length c) := blk_cell h2.out.st.blk 2; have n3 : w2.cell? ⟨w.heap.size, 3, none⟩ = some (.string x.f3) := blk_cell hb2 3; have p0 := hq; clear hb2 hq))
  clear n3 p0 hem hMW hOW hSW hbx
  have f2 := blk_frozen h2.out.st.blk 2
  have hm := Aside0.mk (hMk.out.move (Below.heap_setCell w2 ⟨g, 2, none⟩ (.slice (if c = 1 then some ad else (some ad).map (·.add 1)) (st.left.length - 1) (c - 1)) b2 (hMk.out.ne_g h2.out.st)))
  replace h2 := Aside0.mk (h2.out.less hl0)
  clear hMk
  rw [List.drop_one] at h2
  have h1l : (1 : Int) ≤ (st.left.length : Int) := by omega
  have h1c : (st.left.length : Int) ≤ (c : Int) := by omega
  have hg2 := World.block_lt_of_cell? _ _ c2
  replace he0 := he0.out
  subst he0
  by_cases hc1 : c = 1
  · subst hc1
    replace h2 := Aside0.mk (show KOut w0 w g b1 b2 (some b2) v v2 _ (some ad) 0 st.left.tail (w2.setCell ⟨g, 2, none⟩ (.slice (some ad) (st.left.length - 1) 0)) from h2.out)
    replace hm := Aside0.mk (show MpC (w2.setCell ⟨g, 2, none⟩ (.slice (some ad) (st.left.length - 1) 0)) b2 st.calls from hm.out)
    have ez : st.left.length - 1 = 0 := by omega
    rw [ez] at h2 hm
    go_wp2
    exact Go.Great.bodyPost_end0 rfl rfl ⟨rfl, ⟨v2, some ad, 0, h2.out⟩, hm.out⟩
  · rw [if_neg hc1] at h2 hm
    go_wp2
    exact Go.Great.bodyPost_end0 rfl rfl ⟨rfl, ⟨v2, some (ad.add 1), c - 1, h2.out⟩, hm.out⟩
end Go.Proofs.YtkpnfejfbmandaaDoor.Px

/- compile: a node of kind 4 (a call is noted). -/
namespace Go.Proofs.YtkpnfejfbmandaaDoor.Px
open Go.RowKit Go.Proofs.YtkpnfejfbmandaaDoorW.PrintWords Go.Proofs.YtkpnfejfbmandaaDoorW.PrintLast Go.Proofs.YtkpnfejfbmandaaDoorW.PrintMore
open Go.Maps Go.ChangeMaps Go.MapKept
set_option linter.unusedVariables false
set_option linter.unusedSimpArgs false
/-- The map of the calls is written. -/
theorem KOut.mapped {w0 w : World} {g b1 b2 : Nat} {v0 v : Value} {code A c left W W3} {l : List (Int × ByteArray)} (h : KOut w0 w g b1 b2 (some b2) v0 v code A c left W) (hM : MpC W b2 l) (hb2 : w0.heap.size ≤ b2) (hg : W.grownBy W3 (some b2)) : KOut w0 w g b1 b2 (some b2) v0 v code A c left W3 := by
  have hne := hM.ne_g h.st
  obtain ⟨es, clock, hm⟩ := hM.at_
  refine ⟨⟨blk_grown h.st.blk hg (fun e => hne (by simpa using e.symm)), ?_, h.st.lf, h.st.le, h.st.bel.grown hg h.st.bel.size (fun k hk => by cases hk; exact hb2), h.st.ge⟩, h.keep.trans (⟨hg.size, fun i hi _ hb _ => hg.block i hi hb⟩ : Kp3 W W3 g (some b2) none) (.inr (.inl rfl)), h.row⟩
  refine Kd.R_mono (Kd.R_step (Kd.R_bound h.st.own) (fun k ho _ => hg.block k ho.2.2.1 ?_)) (fun k hk => hk.1)
  intro e
  obtain rfl : k = b2 := by simpa using e
  obtain ⟨q, _, cells, hc⟩ := ho.2.2.2
  rw [hm] at hc
  cases hc
theorem mpD_snoc (l : List (Int × ByteArray)) (p : Int × ByteArray) : mpD (l ++ [p]) = (mpD l).put (.int .i64 p.1) (.lit (.string p.2.data.toList)) := by unfold mpD; rw [List.foldl_append]; rfl
set_option maxHeartbeats 1000000 in
set_option maxRecDepth 100000 in
theorem gNode.call (x : S78) (hk : x.f0 = 4) : gNode.Con x := by
  intro w0 g b1 b2 v st A A6 A7 c c6 c7 w hS hM hb2 hC6 hc6 hC7 hc7 hsm he hlc hlen
  rw [gN_at, if_neg (by rw [hk]; decide), if_neg (by rw [hk]; decide), if_neg (by rw [hk]; decide), if_neg (by rw [hk]; decide), if_pos hk]
  rw [hk]
  have hz0 : x.f2.size ≤ 65536 := by cases x; simp only [smN] at hsm; exact hsm.1
  have hcl : st.code.length ≤ 1000000 := by omega
  have hlc2 : st.calls.length ≤ 1000000 := by omega
  have hkey := Aside0.mk (keyOf_int_mk (P := Tryd.prog) (k := 3) (q := .i64) Tryd.underlying3 (a := (st.code.length : Int)) (by have h1 : IntKind.i64.min = -9223372036854775808 := (by decide); have h2 : IntKind.i64.max = 9223372036854775807 := (by decide); simp [Lit.wf, h1, h2]; omega))
  obtain ⟨W1, e1⟩ : ∃ W1, W1 = w.alloc (.cells #[.int .i64 x.f0, .int .i64 x.f1, .string x.f2, .string x.f3, .bool x.f4, .bool x.f5, .slice A6 x.f6.length c6, .slice A7 x.f7.length c7] 78) := ⟨_, rfl⟩
  have hSW : KIn w0 g b1 b2 v st.code A c st.left W1 := by rw [e1]; exact hS.alloc _
  have hOW := Aside0.mk (show KOut w0 w g b1 b2 (some b2) v v st.code A c st.left W1 from by rw [e1]; exact hS.out.alloc _)
  have hMW := Aside0.mk (show MpC W1 b2 st.calls from by rw [e1]; exact hM.alloc _)
  have hbx := Aside0.mk (show W1.heap[w.heap.size]? = some (.cells #[.int .i64 x.f0, .int .i64 x.f1, .string x.f2, .string x.f3, .bool x.f4, .bool x.f5, .slice A6 x.f6.length c6, .slice A7 x.f7.length c7] 78 (0, 0)) from by rw [e1]; exact blk_new _ _)
  have c3 : W1.cell? ⟨g, 3, none⟩ = some (.map (some b2)) := blk_cell hSW.blk 3
  have n2 : W1.cell? ⟨w.heap.size, 2, none⟩ = some (.string x.f2) := blk_cell hbx.out 2
  have n3 : W1.cell? ⟨w.heap.size, 3, none⟩ = some (.string x.f3) := blk_cell hbx.out 3
  have n4 : W1.cell? ⟨w.heap.size, 4, none⟩ = some (.bool x.f4) := blk_cell hbx.out 4
  have hem := Aside0.mk (emit_any ⟨6, ⟨#[]⟩, x.f3, x.f4, 0, 0⟩ W1.drew hSW.drew hcl)
  replace hSW := Aside0.mk hSW
  rw [hk] at e1
  clear hS hM hC6 hC7 hsm
  go_enter Tryd.func80, Tryd.ntmps80
  go_upto_region 15 with fail
  rw [← e1]
  clear e1
  go_region_held3 (fun w' => w'.cell? ⟨g, 3, none⟩ = some (.map (some b2)) ∧ w'.cell? ⟨w.heap.size, 2, none⟩ = some (.string x.f2) ∧ w'.cell? ⟨w.heap.size, 3, none⟩ = some (.string x.f3) ∧ w'.cell? ⟨w.heap.size, 4, none⟩ = some (.bool x.f4)) (first | exact ⟨c3, n2, n3, n4⟩ | exact ⟨blk_cell hgb 3, blk_cell hbb 2, blk_cell hbb 3, blk_cell hbb 4⟩ | go_keep) (first | (go_at_call 59; refine hem.out.mono ?_; rintro ee w2 ⟨rfl, v2, h2⟩; have hMk := hMW.out.drew.kept hSW.out.drew h2; have hb2' := KOut.boxed hSW.out.drew h2 (show W1.drew.heap[w.heap.size]? = _ from hbx.out) (by decide) (by decide); replace h2 := hOW.out.drew.call (h2.more (some b2)); clear c3 n2 n3 n4; have c3 : w2.cell? ⟨g, 3, none⟩ = some (.map (some b2)) := blk_cell h2.st.blk 3; have n2 : w2.cell? ⟨w.heap.size, 2, none⟩ = some (.string x.f2) := blk_cell hb2' 2; have n3 : w2.cell? ⟨w.heap.size, 3, none⟩ = some (.string x.f3) := blk_cell hb2' 3; have n4 : w2.cell? ⟨w.heap.size, 4, none⟩ = some (.bool x.f4) := blk_cell hb2' 4; obtain ⟨w3, hrun, hO2, hg2⟩ := World.ownsMap.update hMk law3 Tryd.underlying120 (by unfold maxLen; omega) hkey.out (plainElem_string Tryd.underlying9 (show x.f2.size ≤ maxLen by unfold maxLen; omega)); have hgb := blk_grown h2.st.blk hg2 (fun e => hMk.ne_g h2.st (by simpa using e.symm)); have hbb := blk_grown hb2' hg2 (fun e => by obtain ⟨_, _, hq⟩ := hMk.at_; have e2 : w.heap.size = b2 := (by simpa using e); rw [e2, hq] at hb2'; cases hb2'); have hM3 := Aside0.mk hO2; replace h2 := Aside0.mk (h2.mapped hMk hb2 hg2); clear hb2' hg2 hO2 hMk))
  all_goals go_wp2
  all_goals exact Go.Great.bodyPost_end0 rfl rfl ⟨rfl, _, _, _, h2.out, by show World.ownsMap _ _ _ _ _ _ _; rw [List.length_append, mpD_snoc]; exact hM3.out⟩
end Go.Proofs.YtkpnfejfbmandaaDoor.Px

/- compile: a node of kind 3 (range). -/
namespace Go.Proofs.YtkpnfejfbmandaaDoor.Px
open Go.RowKit Go.Proofs.YtkpnfejfbmandaaDoorW.PrintWords Go.Proofs.YtkpnfejfbmandaaDoorW.PrintLast Go.Proofs.YtkpnfejfbmandaaDoorW.PrintMore
open Go.Maps Go.ChangeMaps Go.MapKept
set_option linter.unusedVariables false
set_option linter.unusedSimpArgs false
set_option maxHeartbeats 1000000 in
set_option maxRecDepth 100000 in
theorem gNode.range (x : S78) (hk : x.f0 = 3) (h6 : gList.Con x.f6) : gNode.Con x := by
  intro w0 g b1 b2 v st A A6 A7 c c6 c7 w hS hM hb2 hC6 hc6 hC7 hc7 hsm he hlc hlen
  rw [gN_at, if_neg (by rw [hk]; decide), if_neg (by rw [hk]; decide), if_neg (by rw [hk]; decide), if_pos hk]
  rw [hk]
  have hs6 : smL x.f6 := by cases x; simp only [smN] at hsm; exact hsm.2.1
  have he6 : eL x.f6 ≤ st.left.length := by
    have : eN x = eL x.f6 := by cases x; simp only at hk; simp [eN, hk]
    omega
  rw [nN_eq] at hlc hlen
  have hcl : st.code.length ≤ 1000000 := by omega
  have hgl := gL_len x.f6 (st.emit ⟨4, e0, x.f3, false, 0, 0⟩)
  rw [show (st.emit ⟨4, e0, x.f3, false, 0, 0⟩).code.length = st.code.length + 1 from by simp [KS.emit]] at hgl
  have hwr : IntKind.i64.wrap ((st.code.length : Int) + 1) = (st.code.length : Int) + 1 := by rw [IntKind.wrap_i64]; omega
  obtain ⟨W1, e1⟩ : ∃ W1, W1 = w.alloc (.cells #[.int .i64 x.f0, .int .i64 x.f1, .string x.f2, .string x.f3, .bool x.f4, .bool x.f5, .slice A6 x.f6.length c6, .slice A7 x.f7.length c7] 78) := ⟨_, rfl⟩
  have hSW : KIn w0 g b1 b2 v st.code A c st.left W1 := by rw [e1]; exact hS.alloc _
  have hOW := Aside0.mk (show KOut w0 w g b1 b2 (some b2) v v st.code A c st.left W1 from by rw [e1]; exact hS.out.alloc _)
  have hMW := Aside0.mk (show MpC W1 b2 st.calls from by rw [e1]; exact hM.alloc _)
  have hbx := Aside0.mk (show W1.heap[w.heap.size]? = some (.cells #[.int .i64 x.f0, .int .i64 x.f1, .string x.f2, .string x.f3, .bool x.f4, .bool x.f5, .slice A6 x.f6.length c6, .slice A7 x.f7.length c7] 78 (0, 0)) from by rw [e1]; exact blk_new _ _)
  have n3 : W1.cell? ⟨w.heap.size, 3, none⟩ = some (.string x.f3) := blk_cell hbx.out 3
  have hem := Aside0.mk (emit_any ⟨4, ⟨#[]⟩, x.f3, false, 0, 0⟩ W1 hSW hcl)
  have hli := Aside0.mk (fun v2 W (h : KIn w0 g b1 b2 v2 (st.emit ⟨4, e0, x.f3, false, 0, 0⟩).code A c (st.emit ⟨4, e0, x.f3, false, 0, 0⟩).left W) (hm : MpC W b2 (st.emit ⟨4, e0, x.f3, false, 0, 0⟩).calls) => h6 w0 g b1 b2 v2 (st.emit ⟨4, e0, x.f3, false, 0, 0⟩) A A6 c c6 W h hm hb2 hC6 hc6 hs6 he6 (by show st.calls.length + _ ≤ _; omega) (by simp only [KS.emit, List.length_append, List.length_singleton]; omega))
  replace hSW := Aside0.mk hSW
  rw [hk] at e1
  clear hS hM hC6 hC7 hsm h6
  go_enter Tryd.func80, Tryd.ntmps80
  go_upto_region 10 with fail
  rw [← e1]
  clear e1
  go_wp2_with (first | (go_at_call 59; refine hem.out.mono ?_; rintro ee w2 ⟨rfl, v2, h2⟩; have hMk := Aside0.mk (hMW.out.kept hSW.out h2); have hb2' := KOut.boxed hSW.out h2 hbx.out (by decide) (by decide); replace h2 := Aside0.mk (hOW.out.call (h2.more (some b2))); clear n3 hem; have n6 : w2.cell? ⟨w.heap.size, 6, none⟩ = some (.slice A6 x.f6.length c6) := blk_cell hb2' 6; clear hb2') | (go_at_call 58; refine (hli.out _ _ h2.out.st hMk.out).mono ?_; rintro ee w3 ⟨rfl, v3, A3, c3, h3, hM3⟩; replace h3 := Aside0.mk (h2.out.call h3); replace hM3 := Aside0.mk hM3; clear n6 hli) | (go_at_call 59; refine (emit_any ⟨5, ⟨#[]⟩, ⟨#[]⟩, false, 0, (st.code.length : Int) + 1⟩ _ h3.out.st (by omega)).mono ?_; rintro ee w4 ⟨rfl, v4, h4⟩; have hM4 := Aside0.mk (hM3.out.kept h3.out.st h4); replace h4 := Aside0.mk (h3.out.call (h4.more (some b2))); clear h3 hM3) | (go_at_call 93; refine (land_any st.code.length (by rw [List.length_append, List.length_singleton]; omega) _ h4.out.st).mono ?_; rintro ee w5 ⟨rfl, h5⟩; have hM5 := Aside0.mk (hM4.out.kept h4.out.st h5); replace h5 := Aside0.mk (h4.out.call (h5.more (some b2))); clear h4 hM4))
  all_goals exact Go.Great.bodyPost_end0 rfl rfl ⟨rfl, _, _, _, h5.out, hM5.out⟩
end Go.Proofs.YtkpnfejfbmandaaDoor.Px

/- compile: lists of nodes. -/
namespace Go.Proofs.YtkpnfejfbmandaaDoor.Px
open Go.RowKit Go.Proofs.YtkpnfejfbmandaaDoorW.PrintWords Go.Proofs.YtkpnfejfbmandaaDoorW.PrintLast Go.Proofs.YtkpnfejfbmandaaDoorW.PrintMore
open Go.Maps Go.ChangeMaps Go.MapKept
set_option linter.unusedVariables false
set_option linter.unusedSimpArgs false
/-- Where the loop stands. -/
structure GLoop (w0 w : World) (g b1 b2 : Nat) (v : Value) (l : List S78) (R : KS) (i : Nat) (wr : World) (v' : Value) (A' : Option Addr) (c' : Nat) (st : KS) : Prop where
  eq : gL (l.drop i) st = R
  sm : smL (l.drop i)
  el : eL (l.drop i) ≤ st.left.length
  lc : st.calls.length + nL (l.drop i) ≤ 1000000
  len : st.code.length + 2 * nL (l.drop i) ≤ 1000000
  a : KOut w0 w g b1 b2 (some b2) v v' st.code A' c' st.left wr
  m : MpC wr b2 st.calls
mutual
theorem gL_calls_len : ∀ (l : List S78) (st : KS), (gL l st).calls.length ≤ st.calls.length + nL l
  | [], st => by simp [gL, nL]
  | x :: xs, st => by
    have h1 := gN_calls_len x st
    have h2 := gL_calls_len xs (gN x st)
    rw [gL, nL_cons]; omega
theorem gN_calls_len : ∀ (x : S78) (st : KS), (gN x st).calls.length ≤ st.calls.length + nN x
  | ⟨k, at_, S, nm, f4, f5, b, l⟩, st => by
    rw [gN, nN_eq]
    by_cases h0 : k = 0
    · simp [h0, KS.emit]
    by_cases h1 : k = 1
    · simp [h1]
    by_cases h2 : k = 2
    · have hb := gL_calls_len b (st.emit ⟨2, e0, nm, false, 0, 0⟩)
      cases f5
      · simp only [h2, KS.emit, KS.land, if_true, if_false, Bool.false_eq_true, show ((2 : Int) = 0) = False by decide, show ((2 : Int) = 1) = False by decide] at hb ⊢; omega
      · have hl := gL_calls_len l (((gL b (st.emit ⟨2, e0, nm, false, 0, 0⟩)).emit ⟨3, e0, e0, false, 0, 0⟩).land st.code.length)
        simp only [h2, KS.emit, KS.land, if_true, if_false, show ((2 : Int) = 0) = False by decide, show ((2 : Int) = 1) = False by decide] at hb hl ⊢; omega
    by_cases h3 : k = 3
    · have hb := gL_calls_len b (st.emit ⟨4, e0, nm, false, 0, 0⟩)
      simp only [h3, KS.emit, KS.land, if_true, if_false, show ((3 : Int) = 0) = False by decide, show ((3 : Int) = 1) = False by decide, show ((3 : Int) = 2) = False by decide] at hb ⊢; omega
    by_cases h4 : k = 4
    · simp [h4]; omega
    by_cases h5 : k = 5
    · simp [h5, KS.emit]
    simp [h0, h1, h2, h3, h4, h5]
end
set_option maxHeartbeats 1000000 in
set_option maxRecDepth 100000 in
theorem gList.step (l : List S78) (ih : ∀ x ∈ l, gNode.Con x) : gList.Con l := by
  intro w0 g b1 b2 v st A B c cb w hS hM hb2 hC hc hsm he hlc hlen
  have H0 : GLoop w0 w g b1 b2 v l (gL l st) 0 w v A c st := ⟨rfl, hsm, he, hlc, hlen, hS.out, hM⟩
  generalize gL l st = R at *
  replace ih := Aside0.mk ih
  replace hC := Aside0.mk hC
  replace H0 := Aside0.mk H0
  have hlt : l.length ≤ 1000000 := by have := nL_len l; omega
  clear hS hM hsm he hlc hlen
  go_enter Tryd.func58, Tryd.ntmps58
  go_wp2
  go_loopg [8] l.length (fun kq v8 wr => ∃ (i : Nat) (v' : Value) (A' : Option Addr) (c' : Nat) (st1 : KS), kq + i = l.length ∧ v8 = .int .i64 i ∧ GLoop w0 w g b1 b2 v l R i wr v' A' c' st1)
  case atStart => exact ⟨0, v, A, c, st, rfl, rfl, H0.out⟩
  case round =>
    clear H0
    obtain ⟨i, v1, A1, c1, tx, hki, rfl, HR⟩ := hrel
    have hgr := blk_lt HR.a.st.blk
    replace HR := Aside0.mk HR
    by_cases hlt2 : i < l.length
    · have hl : decide ((i : Int) < (l.length : Int)) = true := decide_eq_true (by omega)
      have hd : l.drop i = l[i] :: l.drop (i + 1) := List.drop_eq_getElem_cons hlt2
      obtain ⟨ad, A6, c6, A7, c7, hA, x0, x1, x2, x3, x4, x5, x6, x7, l6, g6, l7, g7⟩ := at_T78 hC.out (i : Int) (by omega) (by omega)
      have hrd : rd_T78 l (i : Int) = l[i] := by unfold rd_T78; simp [List.getD, hlt2]
      simp only [Int.toNat_natCast] at x0 x1 x2 x3 x4 x5 x6 x7
      rw [hrd] at x0 x1 x2 x3 x4 x5 x6 x7 l6 g6 l7 g7
      have hin := List.getElem_mem hlt2
      generalize l[i] = x at *
      subst hA
      have up : ∀ {a : Addr} {u : Value}, w0.cell? a = some u → wr.cell? a = some u := fun h => (HR.out.a.st.bel.cell (World.block_lt_of_cell? _ _ h)).trans h
      have hab := World.block_lt_of_cell? _ _ (up x0)
      replace x0 := up x0
      replace x1 := up x1
      replace x2 := up x2
      replace x3 := up x3
      replace x4 := up x4
      replace x5 := up x5
      replace x6 := up x6
      replace x7 := up x7
      replace g6 := Aside0.mk g6
      replace g7 := Aside0.mk g7
      clear up hrd
      have HE := HR.out.eq
      have HS := HR.out.sm
      have HL := HR.out.len
      have HC := HR.out.lc
      have HEl := HR.out.el
      rw [hd] at HE HS HL HC HEl
      rw [gL] at HE
      rw [nL_cons] at HL HC
      rw [eL] at HEl
      have hlx := gN_len x tx
      have hly := gN_calls_len x tx
      have hlz : (gN x tx).left.length = tx.left.length - eN x := by rw [gN_left, List.length_drop]
      replace HE := Aside0.mk HE
      replace HS := Aside0.mk HS
      have hcall := Aside0.mk (fun W hk hm => ih.out x hin w0 g b1 b2 v1 tx A1 A6 A7 c1 c6 c7 W hk hm hb2 g6.out l6 g7.out l7 HS.out.1 (by omega) (by omega) (by omega))
      generalize gN x tx = Y at *
      clear ih hC g6 g7 hd
      go_wp2_with (go_at_call 80; refine (hcall.out _ (HR.out.a.st.alloc _) (HR.out.m.alloc _)).mono ?_; rintro e w3 ⟨rfl, v2, A2, c2, h3, hM3⟩; replace h3 := Aside0.mk ((HR.out.a.alloc _).call h3); replace hM3 := Aside0.mk hM3; clear hcall)
      go_roundg (gk - 1)
      case measure => omega
      case rel =>
        exact ⟨i + 1, v2, A2, c2, Y, by omega, by simp, ⟨HE.out, HS.out.2, by omega, by omega, by omega, h3.out, hM3.out⟩⟩
    · have hl : decide ((i : Int) < (l.length : Int)) = false := decide_eq_false (by omega)
      have HE := HR.out.eq
      rw [List.drop_eq_nil_of_le (by omega), gL] at HE
      subst HE
      clear ih hC
      go_wp2
      exact Go.Great.bodyPost_end0 rfl rfl ⟨rfl, _, _, _, HR.out.a, HR.out.m⟩
end Go.Proofs.YtkpnfejfbmandaaDoor.Px

/- compile: branch, and a node of kind 2. -/
namespace Go.Proofs.YtkpnfejfbmandaaDoor.Px
open Go.RowKit Go.Proofs.YtkpnfejfbmandaaDoorW.PrintWords Go.Proofs.YtkpnfejfbmandaaDoorW.PrintLast Go.Proofs.YtkpnfejfbmandaaDoorW.PrintMore
open Go.Maps Go.ChangeMaps Go.MapKept
set_option linter.unusedVariables false
set_option linter.unusedSimpArgs false
/-- The contract of branch, for a node of kind 2. -/
abbrev gBranch.Con (x : S78) : Prop := ∀ (w0 : World) (g b1 b2 : Nat) (v : Value) (st : KS) (A A6 A7 : Option Addr) (c c6 c7 : Nat) (w : World), KIn w0 g b1 b2 v st.code A c st.left w → MpC w b2 st.calls → w0.heap.size ≤ b2 → Kd.C k78 w0 A6 x.f6.length x.f6 → x.f6.length ≤ c6 → Kd.C k78 w0 A7 x.f7.length x.f7 → x.f7.length ≤ c7 → smN x → eN x ≤ st.left.length → st.calls.length + nN x ≤ 1000000 → st.code.length + 2 * nN x ≤ 1000000 →
  Calls Tryd.prog 92 #[.pointer (some ⟨g, 0, none⟩), .agg #[.int .i64 x.f0, .int .i64 x.f1, .string x.f2, .string x.f3, .bool x.f4, .bool x.f5, .slice A6 x.f6.length c6, .slice A7 x.f7.length c7]] w fun e w' =>
    e = .returned (.tuple #[]) ∧ ∃ v' A' c', KOut w0 w g b1 b2 (some b2) v v' (gN x st).code A' c' (gN x st).left w' ∧ MpC w' b2 (gN x st).calls
set_option maxHeartbeats 1000000 in
set_option maxRecDepth 100000 in
theorem gNode.ifs (x : S78) (hk : x.f0 = 2) (hB : gBranch.Con x) : gNode.Con x := by
  intro w0 g b1 b2 v st A A6 A7 c c6 c7 w hS hM hb2 hC6 hc6 hC7 hc7 hsm he hlc hlen
  have hc := Aside0.mk (fun o => hB w0 g b1 b2 v st A A6 A7 c c6 c7 (w.alloc o) (hS.alloc o) (hM.alloc o) hb2 hC6 hc6 hC7 hc7 hsm he hlc hlen)
  have hS1 := Aside0.mk (fun o => (hS.out (mb := some b2)).alloc o)
  obtain ⟨R, hR⟩ : ∃ R, R = gN x st := ⟨_, rfl⟩
  rw [← hR] at hc ⊢
  rw [hk] at hc ⊢
  clear hS hM hC6 hC7 hsm hR hB
  go_enter Tryd.func80, Tryd.ntmps80
  go_wp2_with (go_at_call 92; refine (hc.out _).mono ?_; rintro e w2 ⟨rfl, v2, A2, c2, h2, hM2⟩; replace h2 := Aside0.mk ((hS1.out _).call h2); replace hM2 := Aside0.mk hM2)
  all_goals exact Go.Great.bodyPost_end0 rfl rfl ⟨rfl, _, _, _, h2.out, hM2.out⟩
theorem gNode.any (x : S78) (h6 : gList.Con x.f6) (hB : x.f0 = 2 → gBranch.Con x) : gNode.Con x := by
  by_cases k0 : x.f0 = 0
  · exact gNode.text x k0
  by_cases k1 : x.f0 = 1
  · exact gNode.print x k1
  by_cases k2 : x.f0 = 2
  · exact gNode.ifs x k2 (hB k2)
  by_cases k3 : x.f0 = 3
  · exact gNode.range x k3 h6
  by_cases k4 : x.f0 = 4
  · exact gNode.call x k4
  by_cases k5 : x.f0 = 5
  · exact gNode.five x k5
  exact gNode.other x ⟨k0, k1, k2, k3, k4, k5⟩
end Go.Proofs.YtkpnfejfbmandaaDoor.Px

/- compile: branch. -/
namespace Go.Proofs.YtkpnfejfbmandaaDoor.Px
open Go.RowKit Go.Proofs.YtkpnfejfbmandaaDoorW.PrintWords Go.Proofs.YtkpnfejfbmandaaDoorW.PrintLast Go.Proofs.YtkpnfejfbmandaaDoorW.PrintMore
open Go.Maps Go.ChangeMaps Go.MapKept
set_option linter.unusedVariables false
set_option linter.unusedSimpArgs false
theorem KOut.boxed2 {w0 w : World} {g b1 b2 : Nat} {v v2 : Value} {code A c left code2 A2 c2 left2 W} {l : List (Int × ByteArray)} {cs : Array Value} {t k : Nat} (h : KIn w0 g b1 b2 v code A c left w) (hM : MpC w b2 l) (hO : KOut w0 w g b1 b2 (some b2) v v2 code2 A2 c2 left2 W) (hb : w.heap[k]? = some (.cells cs t (0, 0))) (ht : t ≠ 122) (ht2 : t ≠ 40) : W.heap[k]? = some (.cells cs t (0, 0)) := by
  refine (hO.keep.2 k (blk_lt hb) ?_ ?_ ?_).trans hb
  · rintro rfl
    rw [h.blk] at hb
    cases hb
    exact ht rfl
  · intro e
    obtain rfl : k = b2 := by simpa using e
    obtain ⟨es, clock, hm⟩ := hM.at_
    rw [hm] at hb
    cases hb
  · intro e
    obtain ⟨_, inner, ho, _⟩ := h.own
    rcases ho.2 with ⟨rfl, _⟩ | ⟨g', cap, cur, rfl, _, hh, _⟩
    · cases e
    · obtain rfl : k = g' := by simpa [Value.ownBlock] using e
      rw [hh] at hb
      cases hb
      exact ht2 rfl
set_option maxHeartbeats 1000000 in
set_option maxRecDepth 100000 in
theorem gBranch.one (x : S78) (hk : x.f0 = 2) (h5 : x.f5 = false) (h6 : gList.Con x.f6) : gBranch.Con x := by
  intro w0 g b1 b2 v st A A6 A7 c c6 c7 w hS hM hb2 hC6 hc6 hC7 hc7 hsm he hlc hlen
  rw [gN_at, if_neg (by rw [hk]; decide), if_neg (by rw [hk]; decide), if_pos hk, h5, if_neg (by decide)]
  rw [hk]
  have hs6 : smL x.f6 := by cases x; simp only [smN] at hsm; exact hsm.2.1
  have he6 : eL x.f6 ≤ st.left.length := by
    have : eN x = eL x.f6 := by cases x; simp only at hk h5; simp [eN, hk, h5]
    omega
  rw [nN_eq] at hlc hlen
  have hcl : st.code.length ≤ 1000000 := by omega
  have hgl := gL_len x.f6 (st.emit ⟨2, e0, x.f3, false, 0, 0⟩)
  rw [show (st.emit ⟨2, e0, x.f3, false, 0, 0⟩).code.length = st.code.length + 1 from by simp [KS.emit]] at hgl
  obtain ⟨W1, e1⟩ : ∃ W1, W1 = w.alloc (.cells #[.int .i64 x.f0, .int .i64 x.f1, .string x.f2, .string x.f3, .bool x.f4, .bool false, .slice A6 x.f6.length c6, .slice A7 x.f7.length c7] 78) := ⟨_, rfl⟩
  have hSW : KIn w0 g b1 b2 v st.code A c st.left W1 := by rw [e1]; exact hS.alloc _
  have hOW := Aside0.mk (show KOut w0 w g b1 b2 (some b2) v v st.code A c st.left W1 from by rw [e1]; exact hS.out.alloc _)
  have hMW := Aside0.mk (show MpC W1 b2 st.calls from by rw [e1]; exact hM.alloc _)
  have hbx := Aside0.mk (show W1.heap[w.heap.size]? = some (.cells #[.int .i64 x.f0, .int .i64 x.f1, .string x.f2, .string x.f3, .bool x.f4, .bool false, .slice A6 x.f6.length c6, .slice A7 x.f7.length c7] 78 (0, 0)) from by rw [e1]; exact blk_new _ _)
  have n3 : W1.cell? ⟨w.heap.size, 3, none⟩ = some (.string x.f3) := blk_cell hbx.out 3
  have hem := Aside0.mk (emit_any ⟨2, ⟨#[]⟩, x.f3, false, 0, 0⟩ W1 hSW hcl)
  have hli := Aside0.mk (fun v2 W (h : KIn w0 g b1 b2 v2 (st.emit ⟨2, e0, x.f3, false, 0, 0⟩).code A c (st.emit ⟨2, e0, x.f3, false, 0, 0⟩).left W) (hm : MpC W b2 (st.emit ⟨2, e0, x.f3, false, 0, 0⟩).calls) => h6 w0 g b1 b2 v2 (st.emit ⟨2, e0, x.f3, false, 0, 0⟩) A A6 c c6 W h hm hb2 hC6 hc6 hs6 he6 (by show st.calls.length + _ ≤ _; omega) (by simp only [KS.emit, List.length_append, List.length_singleton]; omega))
  replace hSW := Aside0.mk hSW
  rw [hk] at e1
  clear hS hM hC6 hC7 hsm h6
  go_enter_defers Tryd.func92, Tryd.ntmps92
  go_upto_region 1 with fail
  rw [← e1]
  clear e1
  go_wp2_with (first | (go_at_call 59; refine hem.out.mono ?_; rintro ee w2 ⟨rfl, v2, h2⟩; have hMk := Aside0.mk (hMW.out.kept hSW.out h2); have hb2' := Aside0.mk (KOut.boxed hSW.out h2 hbx.out (by decide) (by decide)); replace h2 := Aside0.mk (hOW.out.call (h2.more (some b2))); clear n3 hem; have n6 : w2.cell? ⟨w.heap.size, 6, none⟩ = some (.slice A6 x.f6.length c6) := blk_cell hb2'.out 6) | (go_at_call 58; refine (hli.out _ _ h2.out.st hMk.out).mono ?_; rintro ee w3 ⟨rfl, v3, A3, c3, h3, hM3⟩; have n5 : w3.cell? ⟨w.heap.size, 5, none⟩ = some (.bool false) := blk_cell (KOut.boxed2 h2.out.st hMk.out h3 hb2'.out (by decide) (by decide)) 5; replace h3 := Aside0.mk (h2.out.call h3); replace hM3 := Aside0.mk hM3; clear n6 hli) | (go_at_call 93; refine (land_any st.code.length (by omega) _ h3.out.st).mono ?_; rintro ee w5 ⟨rfl, h5⟩; have hM5 := Aside0.mk (hM3.out.kept h3.out.st h5); replace h5 := Aside0.mk (h3.out.call (h5.more (some b2))); clear h3 hM3))
  all_goals
    exact ⟨.tuple #[], results_none rfl _ _ _, rfl, _, _, _, h5.out, hM5.out⟩
end Go.Proofs.YtkpnfejfbmandaaDoor.Px

/- compile: land as a deferred call. -/
namespace Go.Proofs.YtkpnfejfbmandaaDoor.Px
open Go.RowKit Go.Proofs.YtkpnfejfbmandaaDoorW.PrintWords Go.Proofs.YtkpnfejfbmandaaDoorW.PrintLast Go.Proofs.YtkpnfejfbmandaaDoorW.PrintMore
open Go.Maps Go.ChangeMaps Go.MapKept
set_option linter.unusedVariables false
set_option linter.unusedSimpArgs false
set_option maxHeartbeats 4000000 in
set_option maxRecDepth 100000 in
theorem land_deferred {w0 g b1 b2 v code A c left} (i : Nat) (hi : i < code.length) (u0 : FrameMode) (w : World) (hS : KIn w0 g b1 b2 v code A c left w) :
    CallsD Tryd.prog 93 #[.pointer (some ⟨g, 0, none⟩), .int .i64 i] u0 w fun e u' w' => u' = u0 ∧ (e = .returned (.tuple #[]) ∧ KOut w0 w g b1 b2 none v v (setTo code i code.length) A c left w') := by
  obtain ⟨gr, cr, rfl, hgr, hfr, ⟨u, hcu⟩, hR, hG⟩ := k40_put5 hS.own i hi code.length
  have c0 : w.cell? ⟨g, 0, none⟩ = some (.slice (some ⟨gr, 0, none⟩) code.length cr) := blk_cell hS.blk 0
  have f0 := blk_frozen hS.blk 0
  have hlt := blk_lt hS.blk
  have hi0 : (0 : Int) ≤ (i : Int) := Int.natCast_nonneg i
  have hi1 : (i : Int) < (code.length : Int) := by omega
  have hD := Aside0.mk (hS.out (mb := none)).drew
  replace hR := Aside0.mk hR
  replace hG := Aside0.mk hG
  replace hS := Aside0.mk hS
  go_enter_d Tryd.func93, Tryd.ntmps93
  go_region_held3 (fun w' => w'.cell? ⟨g, 0, none⟩ = some (.slice (some ⟨gr, 0, none⟩) code.length cr)) (first | exact c0 | exact (cell_far (fun e => hgr e.symm) _).trans c0 | go_keep) (fail)
  all_goals exact Go.Great.bodyPost_end0 rfl rfl ⟨rfl, (hS.out.out.landed (gr := gr) (p := ⟨gr, i * 6 + 5, none⟩) rfl rfl hR.out hG.out).drew⟩
end Go.Proofs.YtkpnfejfbmandaaDoor.Px
