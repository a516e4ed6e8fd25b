/- Contract of lex.directive. -/
import Derived.Test.YtgdpojleejdfaaaDoorSp
import Derived.Deep.RegionHeld
import Derived.Deep.RegionWith
namespace Go.Proofs.YtgdpojleejdfaaaDoor.Px
open Go.RowKit Go.Proofs.YtgdpojleejdfaaaDoorW.PrintWords Go.Proofs.YtgdpojleejdfaaaDoorW.PrintLast Go.Proofs.YtgdpojleejdfaaaDoorW.PrintMore
set_option linter.unusedVariables false
set_option linter.unusedSimpArgs false

/-- The shapes, as the walk reads them. -/
structure Shapes (w : World) : Prop where
  c0 : ∀ k : Int, 1 ≤ k → k ≤ 8 → w.cell? ⟨0, k.toNat * 3, none⟩ = some (.bool (named k))
  c1 : ∀ k : Int, 1 ≤ k → k ≤ 8 → w.cell? ⟨0, k.toNat * 3 + 1, none⟩ = some (.int .i64 (leastOf k))
  c2 : ∀ k : Int, 1 ≤ k → k ≤ 8 → w.cell? ⟨0, k.toNat * 3 + 2, none⟩ = some (.int .i64 (mostOf k))
theorem Shapes.below {w w1 : World} (h : Shapes w) (hb : Below w.heap.size w w1) : Shapes w1 := by
  have e : ∀ {a : Addr} {v : Value}, w.cell? a = some v → w1.cell? a = some v := fun h => (hb.cell (World.block_lt_of_cell? _ _ h)).trans h
  exact ⟨fun k a b => e (h.c0 k a b), fun k a b => e (h.c1 k a b), fun k a b => e (h.c2 k a b)⟩

def tokV (t : T4) : Value := .agg #[.int .i64 t.1, .int .i64 0, .string ⟨t.2.1.toArray⟩, .string ⟨t.2.2.1.toArray⟩, .bool t.2.2.2]
theorem data_back (s : ByteArray) : (⟨s.data.toList.toArray⟩ : ByteArray) = s := by obtain ⟨⟨l⟩⟩ := s; rfl
theorem kwKind_mem {l : List UInt8} {k : Int} (h : kwKind l = some k) : (l, k) ∈ kwList := by
  unfold kwKind at h
  rw [Option.map_eq_some_iff] at h
  obtain ⟨p, hp, rfl⟩ := h
  have h1 := List.mem_of_find?_eq_some hp
  have h2 := List.find?_some hp
  rw [beq_iff_eq] at h2
  rw [← h2]
  exact h1
theorem kwKind_of {l : List UInt8} {k : Int} (h : (l, k) ∈ kwList) : kwKind l = some k := by
  simp only [kwList, List.mem_cons, Prod.mk.injEq, List.not_mem_nil, or_false] at h
  rcases h with ⟨rfl, rfl⟩ | ⟨rfl, rfl⟩ | ⟨rfl, rfl⟩ | ⟨rfl, rfl⟩ | ⟨rfl, rfl⟩ | ⟨rfl, rfl⟩ | ⟨rfl, rfl⟩ <;> rfl
theorem kwHas (l : List UInt8) : Maps.has kwD (.string l) = (kwKind l).isSome := by
  cases h : kwKind l with
  | some k => rw [kw_has (kwKind_mem h)]; rfl
  | none =>
    rw [Option.isSome_none, ← Bool.not_eq_true]
    intro hh
    obtain ⟨c, hc⟩ := kw_mem hh
    rw [kwKind_of hc] at h
    cases h
theorem kwKey9 (x : ByteArray) (h : x.size ≤ 100000) : keyOf Tryd.prog 9 (.string x) = some (.string x.data.toList) := by
  have := Go.WideMaps.keyOf_string_mk (s := x) Tryd.underlying9 (by unfold maxLen; omega)
  simpa using this

set_option maxRecDepth 100000 in
theorem kw_look {w1 : World} {b : Nat} (hO : w1.ownsMap Tryd.prog 9 (plainElem (H := Unit) Tryd.prog 3) b 7 kwD) (x : ByteArray) (hx : x.size ≤ 100000) :
    ∃ c : Int, (Instr.lookup 81 (.map (some b)) (.string x) true).run Tryd.prog w1 = .ok (.tuple #[.int .i64 c, .bool (kwKind x.data.toList).isSome]) w1 ∧ ∀ k, kwKind x.data.toList = some k → c = k := by
  obtain ⟨v, ps, hrun, hv⟩ := hO.look_ok law9 Tryd.underlying81 (z := .int .i64 0) rfl (plainElem_int Tryd.underlying3 (by decide)) (kwKey9 x hx)
  obtain ⟨c, rfl, hc, _⟩ := plainElem_int_inv Tryd.underlying3 hv
  rw [kwHas] at hrun
  refine ⟨c, hrun, fun k hk => ?_⟩
  have h1 := congrArg Prod.fst hc
  rw [kw_at (kwKind_mem hk)] at h1
  simpa using h1.symm
theorem blk_set5 {w : World} {g t : Nat} {cs : Array Value} (h : w.heap[g]? = some (.cells cs t (0, 0))) (hs : cs.size = 5) (a b c d e : Value) :
    (((((w.setCell ⟨g, 0, none⟩ a).setCell ⟨g, 1, none⟩ b).setCell ⟨g, 2, none⟩ c).setCell ⟨g, 3, none⟩ d).setCell ⟨g, 4, none⟩ e).heap[g]? = some (.cells #[a, b, c, d, e] t (0, 0)) := by
  have h5 := blk_set (blk_set (blk_set (blk_set (blk_set h 0 a) 1 b) 2 c) 3 d) 4 e
  refine h5.trans (congrArg (fun x => some (Obj.cells x t (0, 0))) ?_)
  clear h h5
  obtain ⟨l⟩ := cs
  match l, hs with
  | [x0, x1, x2, x3, x4], _ => simp only [List.setIfInBounds_toArray, List.set_cons_zero, List.set_cons_succ]
theorem below_set5 {B : Nat} {w0 w : World} {g : Nat} (h : Below B w0 w) (hg : B ≤ g) (a b c d e : Value) :
    Below B w0 (((((w.setCell ⟨g, 0, none⟩ a).setCell ⟨g, 1, none⟩ b).setCell ⟨g, 2, none⟩ c).setCell ⟨g, 3, none⟩ d).setCell ⟨g, 4, none⟩ e) :=
  ((((h.setCell hg a).setCell hg b).setCell hg c).setCell hg d).setCell hg e
theorem size28 : (Tryd.prog.info? 28).map (·.size) = some 5 := by kernel_rfl
def z5 : Array Value := #[.int .i64 0, .int .i64 0, .string ⟨#[]⟩, .string ⟨#[]⟩, .bool false]
/-- The call's result cell, new in w, holds the zero token still. -/
structure DiW (w wc : World) : Prop where
  blk : wc.heap[w.heap.size]? = some (.cells #[.int .i64 0, .int .i64 0, .string ⟨#[]⟩, .string ⟨#[]⟩, .bool false] 28 (0, 0))
  bel : Below w.heap.size w wc
theorem DiW.below {w wc wd : World} (h : DiW w wc) (hb : Below wc.heap.size wc wd) : DiW w wd := ⟨blk_below h.blk hb, below_step h.bel hb⟩
theorem DiW.drew {w wc : World} (h : DiW w wc) : DiW w wc.drew := ⟨h.blk, h.bel.drew⟩
theorem DiW.cell {w wc : World} (h : DiW w wc) (i : Nat) : wc.cell? ⟨w.heap.size, i, none⟩ = (#[.int .i64 0, .int .i64 0, .string ⟨#[]⟩, .string ⟨#[]⟩, .bool false] : Array Value)[i]? := blk_cell h.blk i
theorem DiW.frozen {w wc : World} (h : DiW w wc) (i : Nat) : wc.frozen? ⟨w.heap.size, i, none⟩ = false := blk_frozen h.blk i
def DiR1 (w : World) (l : List UInt8) (v4 v5 : Value) (wc : World) : Prop := ∃ kc : Int, v4 = .int .i64 kc ∧ v5 = .bool (kwKind l).isSome ∧ (∀ k, kwKind l = some k → kc = k) ∧ DiW w wc
/-- The token under way (block g6) and the shape (block g7). -/
structure DiT (w : World) (k : Int) (s p : ByteArray) (h : Bool) (g6 g7 : Nat) (wc : World) : Prop where
  b6 : wc.heap[g6]? = some (.cells #[.int .i64 k, .int .i64 0, .string s, .string p, .bool h] 28 (0, 0))
  b7 : wc.heap[g7]? = some (.cells #[.bool (named k), .int .i64 (leastOf k), .int .i64 (mostOf k)] 106 (0, 0))
  l6 : w.heap.size < g6
  l7 : w.heap.size < g7
  ne : g6 ≠ g7
  dw : DiW w wc
theorem DiT.below {w wc wd : World} {k : Int} {s p : ByteArray} {h : Bool} {g6 g7 : Nat} (t : DiT w k s p h g6 g7 wc) (hb : Below wc.heap.size wc wd) : DiT w k s p h g6 g7 wd :=
  ⟨blk_below t.b6 hb, blk_below t.b7 hb, t.l6, t.l7, t.ne, t.dw.below hb⟩
theorem DiT.drew {w wc : World} {k : Int} {s p : ByteArray} {h : Bool} {g6 g7 : Nat} (t : DiT w k s p h g6 g7 wc) : DiT w k s p h g6 g7 wc.drew := ⟨t.b6, t.b7, t.l6, t.l7, t.ne, t.dw.drew⟩
theorem DiW.set {w wc : World} (h : DiW w wc) {g : Nat} (hg : w.heap.size < g) (i : Nat) (v : Value) : DiW w (wc.setCell ⟨g, i, none⟩ v) :=
  ⟨blk_far' h.blk (by omega) v, h.bel.setCell (Nat.le_of_lt hg) v⟩
theorem DiT.name {w wc : World} {k : Int} {s p : ByteArray} {h : Bool} {g6 g7 : Nat} (t : DiT w k s p h g6 g7 wc) (s' : ByteArray) : DiT w k s' p h g6 g7 (wc.setCell ⟨g6, 2, none⟩ (.string s')) :=
  ⟨(blk_set t.b6 2 (.string s')).trans rfl, blk_far' t.b7 (fun e => t.ne e.symm) _, t.l6, t.l7, t.ne, t.dw.set t.l6 _ _⟩
theorem DiT.path {w wc : World} {k : Int} {s p : ByteArray} {h : Bool} {g6 g7 : Nat} (t : DiT w k s p h g6 g7 wc) (p' : ByteArray) (h' : Bool) : DiT w k s p' h' g6 g7 ((wc.setCell ⟨g6, 3, none⟩ (.string p')).setCell ⟨g6, 4, none⟩ (.bool h')) :=
  ⟨(blk_set (blk_set t.b6 3 (.string p')) 4 (.bool h')).trans rfl, blk_far' (blk_far' t.b7 (fun e => t.ne e.symm) _) (fun e => t.ne e.symm) _, t.l6, t.l7, t.ne, (t.dw.set t.l6 _ _).set t.l6 _ _⟩
def lsX (xs : List ByteArray) : List (List UInt8) := xs.map (·.data.toList)
def DiR3 (w : World) (k : Int) (v6 v7 : Value) (wc : World) : Prop := ∃ (g6 g7 : Nat), v6 = .pointer (some ⟨g6, 0, none⟩) ∧ v7 = .pointer (some ⟨g7, 0, none⟩) ∧ DiT w k ⟨#[]⟩ ⟨#[]⟩ false g6 g7 wc
def DiR4 (w : World) (R : Int × T4) (k : Int) (g6 g7 : Nat) (v0 : Value) (wc : World) : Prop := ∃ (A : Option Addr) (c : Nat) (rest : List ByteArray) (s : ByteArray), v0 = .slice A rest.length c ∧ R = dirP k s.data.toList (lsX rest) ∧
  Kd.C Kd.string w A rest.length rest ∧ rest.length ≤ c ∧ (∀ x ∈ rest, x.size ≤ 65536) ∧ s.size ≤ 65536 ∧ DiT w k s ⟨#[]⟩ false g6 g7 wc
/-- The loop over the paths: at most one. -/
def DiLp (w : World) (R : Int × T4) (k : Int) (s : ByteArray) (n : Nat) (g6 g7 : Nat) (v : Value) (wc : World) : Prop := ∃ i : Nat, v = .int .i64 i ∧ i ≤ n ∧
  ∃ p h, p.size ≤ 65536 ∧ DiT w k s p h g6 g7 wc ∧ (i = n → R = dirE k s.data.toList p.data.toList h)
def DiR2 (w : World) (R : Int × T4) (v0 v4 _v5 : Value) (wc : World) : Prop := ∃ (A : Option Addr) (c : Nat) (rest : List ByteArray) (k : Int), v0 = .slice A rest.length c ∧ v4 = .int .i64 k ∧ 1 ≤ k ∧ k ≤ 8 ∧ R = dirK k (lsX rest) ∧
  Kd.C Kd.string w A rest.length rest ∧ rest.length ≤ c ∧ (∀ x ∈ rest, x.size ≤ 65536) ∧ DiW w wc
theorem kw_range {l : List UInt8} {k : Int} (h : kwKind l = some k) : 1 ≤ k ∧ k ≤ 8 := by
  have h := kwKind_mem h
  simp only [kwList, List.mem_cons, Prod.mk.injEq, List.not_mem_nil, or_false] at h
  rcases h with ⟨_, rfl⟩ | ⟨_, rfl⟩ | ⟨_, rfl⟩ | ⟨_, rfl⟩ | ⟨_, rfl⟩ | ⟨_, rfl⟩ | ⟨_, rfl⟩ <;> decide
set_option maxRecDepth 100000 in
theorem info9d : ∃ i, Tryd.prog.info? 9 = some i ∧ i.size = 1 := ⟨_, rfl, rfl⟩

def cutA (A : Option Addr) (c : Nat) : Option Addr := if c = 1 then A else A.map (·.add 1)
theorem cutA_C {w : World} {A : Option Addr} {c : Nat} {x : ByteArray} {l : List ByteArray} (h : Kd.C Kd.string w A (x :: l).length (x :: l)) (hc : (x :: l).length ≤ c) : Kd.C Kd.string w (cutA A c) l.length l :=
  Kd.C_drop (m := 1) h (by rw [List.length_cons]; omega) hc
theorem cut1 (A : Option Addr) (n c : Nat) (h : 1 ≤ n) : ∀ W : World, (Instr.slice 60 (.slice A n c) (some (.int .i64 1)) none none).run Tryd.prog W = .ok (.slice (cutA A c) (n - 1) (c - 1)) W := by
  obtain ⟨i, hi, hsz⟩ := info9d
  exact cut_from 60 9 .i64 Tryd.underlying60 hi 1 hsz A n c 1 (by decide) (by omega)
set_option maxHeartbeats 2000000 in
set_option maxRecDepth 100000 in
theorem directive_any (ws : List ByteArray) (A : Option Addr) (c : Nat) (w : World) (hG : Glob w) (hS : Shapes w) (hC : Kd.C Kd.string w A ws.length ws) (hc : ws.length ≤ c) (hz : ∀ x ∈ ws, x.size ≤ 65536) :
    Calls Tryd.prog 38 #[.slice A ws.length c] w fun e w' => e = .returned (.tuple #[tokV (dirF (ws.map (·.data.toList))).2, .int .i64 (dirF (ws.map (·.data.toList))).1]) ∧ Below w.heap.size w w' := by
  cases ws with
  | nil =>
    generalize hR : dirF (([] : List ByteArray).map (·.data.toList)) = R at *
    have hR : R = (5, zeroT) := hR.symm
    go_enter Tryd.func38, Tryd.ntmps38
    go_wp2
    refine bodyPost_ret (results_ct rfl _ _ w.heap.size 28 #[.int .i64 0, .int .i64 0, .string ⟨#[]⟩, .string ⟨#[]⟩, .bool false] (0, 0) _ rfl (blk_new _ _) Tryd.underlying28 rfl size28) rfl ?_
    exact ⟨by rw [hR]; rfl, (Below.refl _ _).alloc (Nat.le_refl _) _⟩
  | cons x l =>
  have hm := Kd.C_max hC
  have hx := hz x (by simp)
  have hD : dirF ((x :: l).map (·.data.toList)) = (match kwKind x.data.toList with
    | some k => dirK k (l.map (·.data.toList))
    | none => if Lib.hasPrefix x.data.toList [46] = true then dirK 1 ((x :: l).map (·.data.toList)) else (5, zeroT)) := rfl
  have hl0 : (((x :: l).length : Int) == 0) = false := by rw [beq_eq_false_iff_ne, List.length_cons]; omega
  generalize dirF ((x :: l).map (·.data.toList)) = R at *
  obtain ⟨ad, rfl, y0⟩ := Kd.at_string hC 0 (Int.le_refl _) (by rw [List.length_cons]; omega)
  obtain ⟨b, o, sp⟩ := ad
  have y0 : w.cell? ⟨b, o, sp⟩ = some (.string x) := by simpa [rdOf, Addr.add] using y0
  have hb := World.block_lt_of_cell? _ _ y0
  replace hC := Aside0.mk hC
  replace hS := Aside0.mk hS
  replace hG := Aside0.mk hG
  have hzz := Aside0.mk hz; clear hz
  replace hD := Aside0.mk hD
  have hl1 : 0 < ((x :: l).length : Int) := by rw [List.length_cons]; omega
  generalize hn : (x :: l).length = n at *
  replace hn := Aside0.mk hn
  go_enter Tryd.func38, Tryd.ntmps38
  go_wp2_with fail
  have y1 : (w.alloc (.cells #[.int .i64 0, .int .i64 0, .string ⟨#[]⟩, .string ⟨#[]⟩, .bool false] 28)).cell? ⟨b, o, sp⟩ = some (.string x) := (World.cell?_alloc_some w _ _ (by rw [y0]; rfl)).trans y0
  have HB := Aside0.mk ((Below.refl w.heap.size w).alloc (Nat.le_refl _) (.cells #[.int .i64 0, .int .i64 0, .string ⟨#[]⟩, .string ⟨#[]⟩, .bool false] 28))
  have hblk := Aside0.mk (blk_new w (.cells #[.int .i64 0, .int .i64 0, .string ⟨#[]⟩, .string ⟨#[]⟩, .bool false] 28))
  have hzr : (zeroValue 3).run Tryd.prog = fun w => .ok (.int .i64 0) w := rfl
  clear y0
  generalize w.alloc (.cells #[.int .i64 0, .int .i64 0, .string ⟨#[]⟩, .string ⟨#[]⟩, .bool false] 28) = w0 at *
  have HW : Aside0 (DiW w w0) := ⟨⟨hblk.out, HB.out⟩⟩
  clear hblk HB
  go_cut [4, 5] (fun v4 v5 wc => DiR1 w x.data.toList v4 v5 wc)
  case first =>
    go_region_with (go_at_call 50; (with_reducible refine (keywords_any _).mono ?_); rintro e w1 ⟨rfl, hO, hB1⟩
                    have y2 : w1.cell? ⟨b, o, sp⟩ = some (.string x) := (hB1.cell (World.block_lt_of_cell? _ _ y1)).trans y1
                    obtain ⟨kc, hlk0, hkc⟩ := kw_look hO x (by omega)
                    have hlk : (Instr.lookup 81 (.map (some w0.heap.size)) (.string x) true).run Tryd.prog w1 = _ := hlk0
                    clear hlk0
                    replace hkc := Aside0.mk hkc
                    clear hO
                    replace hB1 := Aside0.mk hB1)
    all_goals
      go_wp2
      go_meet
      case rel => exact ⟨kc, rfl, rfl, hkc.out, (DiW.drew HW.out).below hB1.out⟩
  case rest =>
    clear hzr y1 HW
    obtain ⟨kc, rfl, rfl, hkc, HW⟩ := hcut
    replace HW := Aside0.mk HW
    have y2 : wc.cell? ⟨b, o, sp⟩ = some (.string x) := by
      rw [HW.out.bel.cell hb]
      simpa [rdOf, Addr.add] using y0
    clear y0
    have hw1 := cut1 (some ⟨b, o, sp⟩) n c (by omega)
    go_upto_block 0 with fail
    go_cut [0, 4, 5] (fun v0 v4 v5 wd => DiR2 w R v0 v4 v5 wd)
    case first =>
      have hll : l.length = n - 1 := by have := hn.out; rw [List.length_cons] at this; omega
      have hCl := Aside0.mk (show Kd.C Kd.string w (cutA (some ⟨b, o, sp⟩) c) l.length l from cutA_C (x := x) (by rw [hn.out]; exact hC.out) (by rw [hn.out]; exact hc))
      cases hk : kwKind x.data.toList with
      | some k =>
        obtain ⟨k1, k8⟩ := kw_range hk
        have hR := Aside0.mk (show R = dirK k (lsX l) by rw [hD.out, hk]; rfl)
        generalize cutA (some ⟨b, o, sp⟩) c = A' at *
        obtain rfl := hkc k hk
        clear hk hkc
        go_wp2
        go_meet
        case rel => exact ⟨A', c - 1, l, kc, by rw [hll], rfl, k1, k8, hR.out, hCl.out, by omega, fun y hy => hzz.out y (by simp [hy]), HW.out⟩
      | none =>
        clear hkc
        go_wp2_with fail
        refine (Tryd.strings_HasPrefix x ⟨#[46]⟩ _).mono ?_
        rintro e w1 ⟨rfl, rfl⟩
        cases hp : Lib.hasPrefix x.data.toList [46] with
        | true =>
          have hR := Aside0.mk (show R = dirK 1 (lsX (x :: l)) by rw [hD.out, hk]; dsimp only; rw [if_pos hp]; rfl)
          have hp' : Lib.hasPrefix x.data.toList (⟨#[46]⟩ : ByteArray).data.toList = true := hp
          go_wp2
          go_meet
          case rel => exact ⟨some ⟨b, o, sp⟩, c, x :: l, 1, by rw [hn.out], rfl, by decide, by decide, hR.out, by rw [hn.out]; exact hC.out, by rw [hn.out]; exact hc, hzz.out, HW.out⟩
        | false =>
          have hR := Aside0.mk (show R = (5, zeroT) by rw [hD.out, hk]; dsimp only; rw [if_neg (by rw [hp]; decide)])
          have hp' : Lib.hasPrefix x.data.toList (⟨#[46]⟩ : ByteArray).data.toList = false := hp
          have z0 := HW.out.cell 0; have z1 := HW.out.cell 1; have z2 := HW.out.cell 2; have z3 := HW.out.cell 3; have z4 := HW.out.cell 4
          have f0 := HW.out.frozen 0; have f1 := HW.out.frozen 1; have f2 := HW.out.frozen 2; have f3 := HW.out.frozen 3; have f4 := HW.out.frozen 4
          go_wp2
          refine bodyPost_ret (results_ct rfl _ _ w.heap.size 28 #[.int .i64 0, .int .i64 0, .string ⟨#[]⟩, .string ⟨#[]⟩, .bool false] (0, 0) _ rfl (blk_set5 HW.out.blk rfl _ _ _ _ _) Tryd.underlying28 rfl size28) rfl ?_
          exact ⟨by rw [hR.out]; rfl, below_set5 HW.out.bel (Nat.le_refl _) _ _ _ _ _⟩
    case rest =>
      obtain ⟨A, c', rest, k, rfl, rfl, k1, k8, hR, hC', hc', hz', HW⟩ := hcut
      replace HW := Aside0.mk HW
      replace hC' := Aside0.mk hC'
      replace hR := Aside0.mk hR
      replace hz' := Aside0.mk hz'
      have hm' := Kd.C_max hC'.out
      have s0 := (hS.out.below HW.out.bel).c0 k k1 k8
      have s1 := (hS.out.below HW.out.bel).c1 k k1 k8
      have s2 := (hS.out.below HW.out.bel).c2 k k1 k8
      have hp0 : 0 < wc.heap.size := World.block_lt_of_cell? _ _ s0
      have k0 : 0 ≤ k := by omega
      have k9 : k < 9 := by omega
      go_upto_region 9 with fail
      go_cut [6, 7] (fun v6 v7 wd => DiR3 w k v6 v7 wd)
      case first =>
        go_region
        all_goals
          go_wp2
          go_meet
          case rel =>
            have hlt := blk_lt HW.out.blk
            first
            | exact ⟨wc.heap.size, wc.heap.size + 1, rfl, rfl, blk_alloc (blk_new wc _) _, blk_new' (by simp), hlt, by omega, by omega, blk_alloc (blk_alloc HW.out.blk _) _, (below_alloc (below_alloc HW.out.bel _) _).drew⟩
            | exact ⟨wc.heap.size + 1, wc.heap.size, rfl, rfl, blk_new' (by simp), blk_alloc (blk_new wc _) _, by omega, hlt, by omega, blk_alloc (blk_alloc HW.out.blk _) _, (below_alloc (below_alloc HW.out.bel _) _).drew⟩
      case rest =>
        clear s0 s1 s2 hp0 HW
        obtain ⟨g6, g7, rfl, rfl, HT⟩ := hcut
        have y0 := (blk_cell HT.b7 0).trans rfl
        replace HT := Aside0.mk HT
        go_upto_if 40 with fail
        go_cut [0, 40] (fun v0 _ wd => DiR4 w R k g6 g7 v0 wd)
        case first =>
          cases hnm : named k with
          | false =>
            have hR4 := Aside0.mk (show R = dirP k (⟨#[]⟩ : ByteArray).data.toList (lsX rest) by rw [hR.out]; unfold dirK; rw [if_neg (by rw [hnm]; decide)])
            go_wp2
            go_meet
            case rel => exact ⟨A, c', rest, ⟨#[]⟩, rfl, hR4.out, hC'.out, hc', hz'.out, by decide, HT.out⟩
          | true =>
            cases rest with
            | nil =>
              have hE := Aside0.mk (show R = (5, zeroT) by rw [hR.out]; unfold dirK; rw [if_pos hnm]; rfl)
              have z0 := HT.out.dw.cell 0; have z1 := HT.out.dw.cell 1; have z2 := HT.out.dw.cell 2; have z3 := HT.out.dw.cell 3; have z4 := HT.out.dw.cell 4
              have f0 := HT.out.dw.frozen 0; have f1 := HT.out.dw.frozen 1; have f2 := HT.out.dw.frozen 2; have f3 := HT.out.dw.frozen 3; have f4 := HT.out.dw.frozen 4
              go_wp2
              refine bodyPost_ret (results_ct rfl _ _ w.heap.size 28 #[.int .i64 0, .int .i64 0, .string ⟨#[]⟩, .string ⟨#[]⟩, .bool false] (0, 0) _ rfl (blk_set5 HT.out.dw.blk rfl _ _ _ _ _) Tryd.underlying28 rfl size28) rfl ?_
              exact ⟨by rw [hE.out]; rfl, below_set5 HT.out.dw.bel (Nat.le_refl _) _ _ _ _ _⟩
            | cons y l2 =>
              have hK : R = if Lib.hasPrefix y.data.toList [46] = true then (5, zeroT) else dirP k y.data.toList (lsX l2) := by rw [hR.out]; unfold dirK; rw [if_pos hnm]; rfl
              have hl2 : (((y :: l2).length : Int) == 0) = false := by rw [beq_eq_false_iff_ne, List.length_cons]; omega
              have hl3 : 0 < ((y :: l2).length : Int) := by rw [List.length_cons]; omega
              obtain ⟨ad, rfl, y2⟩ := Kd.at_string hC'.out 0 (Int.le_refl _) hl3
              obtain ⟨b2, o2, sp2⟩ := ad
              have y2 : w.cell? ⟨b2, o2, sp2⟩ = some (.string y) := by simpa [rdOf, Addr.add] using y2
              have y3 : wc.cell? ⟨b2, o2, sp2⟩ = some (.string y) := (HT.out.dw.bel.cell (World.block_lt_of_cell? _ _ y2)).trans y2
              have hw2 := cut1 (some ⟨b2, o2, sp2⟩) (y :: l2).length c' (by rw [List.length_cons]; omega)
              have hC2 := Aside0.mk (cutA_C hC'.out hc')
              have hz2 := Aside0.mk (fun q (hq : q ∈ l2) => hz'.out q (by simp [hq]))
              have hyz := hz'.out y (by simp)
              have hll2 : l2.length = (y :: l2).length - 1 := by rw [List.length_cons]; omega
              have hlc : l2.length ≤ c' - 1 := by omega
              replace hK := Aside0.mk hK
              clear y2
              generalize (y :: l2).length = n2 at *
              go_wp2_with fail
              refine (Tryd.strings_HasPrefix y ⟨#[46]⟩ _).mono ?_
              rintro e w1 ⟨rfl, rfl⟩
              cases hp : Lib.hasPrefix y.data.toList [46] with
              | true =>
                have hE := Aside0.mk (show R = (5, zeroT) by rw [hK.out, if_pos hp])
                have hp' : Lib.hasPrefix y.data.toList (⟨#[46]⟩ : ByteArray).data.toList = true := hp
                have z0 := HT.out.dw.cell 0; have z1 := HT.out.dw.cell 1; have z2 := HT.out.dw.cell 2; have z3 := HT.out.dw.cell 3; have z4 := HT.out.dw.cell 4
                have f0 := HT.out.dw.frozen 0; have f1 := HT.out.dw.frozen 1; have f2 := HT.out.dw.frozen 2; have f3 := HT.out.dw.frozen 3; have f4 := HT.out.dw.frozen 4
                go_wp2
                refine bodyPost_ret (results_ct rfl _ _ w.heap.size 28 #[.int .i64 0, .int .i64 0, .string ⟨#[]⟩, .string ⟨#[]⟩, .bool false] (0, 0) _ rfl (blk_set5 HT.out.dw.blk rfl _ _ _ _ _) Tryd.underlying28 rfl size28) rfl ?_
                exact ⟨by rw [hE.out]; rfl, below_set5 HT.out.dw.bel (Nat.le_refl _) _ _ _ _ _⟩
              | false =>
                have hR4 := Aside0.mk (show R = dirP k y.data.toList (lsX l2) by rw [hK.out, if_neg (by rw [hp]; decide)])
                have hp' : Lib.hasPrefix y.data.toList (⟨#[46]⟩ : ByteArray).data.toList = false := hp
                have q2 := (blk_cell HT.out.b6 2).trans rfl
                have r2 := blk_frozen HT.out.b6 2
                go_wp2
                go_region
                all_goals
                  go_wp2
                  go_meet
                  case rel => exact ⟨_, c' - 1, l2, y, by rw [hll2], hR4.out, hC2.out, hlc, hz2.out, hyz, HT.out.drew.name y⟩
        case rest =>
          clear hR hC' hc' hz' HT y0 hm'
          obtain ⟨A, c', rest, s, rfl, hR, hC', hc', hz', hsz, HT⟩ := hcut
          have q0 := (blk_cell HT.b7 0).trans rfl
          have q1 := (blk_cell HT.b7 1).trans rfl
          have q2 := (blk_cell HT.b7 2).trans rfl
          have hm' := Kd.C_max hC'
          generalize hn3 : rest.length = n3 at *
          replace hn3 := Aside0.mk hn3
          replace HT := Aside0.mk HT
          replace hR := Aside0.mk hR
          replace hC' := Aside0.mk hC'
          replace hz' := Aside0.mk hz'
          by_cases hless : n3 < leastOf k
          · have hb1 : decide (n3 < leastOf k) = true := decide_eq_true hless
            have hE := Aside0.mk (show R = (5, zeroT) by rw [hR.out]; unfold dirP; rw [if_pos (.inl (by rw [lsX, List.length_map, hn3.out]; exact hless))])
            have z0 := HT.out.dw.cell 0; have z1 := HT.out.dw.cell 1; have z2 := HT.out.dw.cell 2; have z3 := HT.out.dw.cell 3; have z4 := HT.out.dw.cell 4
            have f0 := HT.out.dw.frozen 0; have f1 := HT.out.dw.frozen 1; have f2 := HT.out.dw.frozen 2; have f3 := HT.out.dw.frozen 3; have f4 := HT.out.dw.frozen 4
            go_wp2
            refine bodyPost_ret (results_ct rfl _ _ w.heap.size 28 #[.int .i64 0, .int .i64 0, .string ⟨#[]⟩, .string ⟨#[]⟩, .bool false] (0, 0) _ rfl (blk_set5 HT.out.dw.blk rfl _ _ _ _ _) Tryd.underlying28 rfl size28) rfl ?_
            exact ⟨by rw [hE.out]; rfl, below_set5 HT.out.dw.bel (Nat.le_refl _) _ _ _ _ _⟩
          have hb1 : decide (n3 < leastOf k) = false := decide_eq_false hless
          by_cases hmore : mostOf k < n3
          · have hb2 : decide (mostOf k < n3) = true := decide_eq_true hmore
            have hE := Aside0.mk (show R = (5, zeroT) by rw [hR.out]; unfold dirP; rw [if_pos (.inr (by rw [lsX, List.length_map, hn3.out]; exact hmore))])
            have z0 := HT.out.dw.cell 0; have z1 := HT.out.dw.cell 1; have z2 := HT.out.dw.cell 2; have z3 := HT.out.dw.cell 3; have z4 := HT.out.dw.cell 4
            have f0 := HT.out.dw.frozen 0; have f1 := HT.out.dw.frozen 1; have f2 := HT.out.dw.frozen 2; have f3 := HT.out.dw.frozen 3; have f4 := HT.out.dw.frozen 4
            go_wp2
            refine bodyPost_ret (results_ct rfl _ _ w.heap.size 28 #[.int .i64 0, .int .i64 0, .string ⟨#[]⟩, .string ⟨#[]⟩, .bool false] (0, 0) _ rfl (blk_set5 HT.out.dw.blk rfl _ _ _ _ _) Tryd.underlying28 rfl size28) rfl ?_
            exact ⟨by rw [hE.out]; rfl, below_set5 HT.out.dw.bel (Nat.le_refl _) _ _ _ _ _⟩
          have hb2 : decide (mostOf k < n3) = false := decide_eq_false hmore
          have hone : n3 ≤ 1 := by
            have : mostOf k ≤ 1 := by unfold mostOf; split <;> omega
            omega
          have hR5 := Aside0.mk (show R = (match lsX rest with
              | [] => dirE k s.data.toList [] false
              | w :: _ => if Lib.hasPrefix w [46] = true then dirE k s.data.toList (w.drop 1) true else (5, zeroT)) by
            have hcond : ¬ ((lsX rest).length < leastOf k ∨ mostOf k < (lsX rest).length) := by rw [lsX, List.length_map, hn3.out]; omega
            rw [hR.out]
            exact if_neg hcond)
          clear hR
          go_wp2
          go_loopw [72] (fun v wr => DiLp w R k s n3 g6 g7 v wr) (fun v _ => n3 - (intOf v).toNat)
          case atStart => exact ⟨0, rfl, Nat.zero_le _, ⟨#[]⟩, false, by decide, HT.out, fun e => by rw [hR5.out, List.eq_nil_of_length_eq_zero (hn3.out.trans e.symm)]; rfl⟩
          case round =>
            clear HT q0 q1 q2
            obtain ⟨i, rfl, hi, p, h, hps, HT, hend⟩ := hrel
            replace HT := Aside0.mk HT
            by_cases hlt : i < n3
            case neg =>
              obtain rfl : i = n3 := by omega
              have hE0 := Aside0.mk (hend rfl)
              have t2 := (blk_cell HT.out.b6 2).trans rfl
              have t3 := (blk_cell HT.out.b6 3).trans rfl
              have q0 := (blk_cell HT.out.b7 0).trans rfl
              clear hend
              go_wp2_with fail
              refine (split_any p _ hps (hG.out.below HT.out.dw.bel)).mono ?_
              rintro e w1 ⟨sv, rfl, HB1⟩
              replace HT := Aside0.mk (HT.out.below HB1)
              clear t2 t3 q0 HB1
              have t2 := (blk_cell HT.out.b6 2).trans rfl
              have q0 := (blk_cell HT.out.b7 0).trans rfl
              cases hpl : pathL p.data.toList with
              | false =>
                have hpe := pathE_f hpl
                have hE := Aside0.mk (show R = (11, zeroT) by rw [hE0.out]; unfold dirE; rw [if_neg (by rw [hpl]; simp)])
                have z0 := HT.out.dw.cell 0; have z1 := HT.out.dw.cell 1; have z2 := HT.out.dw.cell 2; have z3 := HT.out.dw.cell 3; have z4 := HT.out.dw.cell 4
                have f0 := HT.out.dw.frozen 0; have f1 := HT.out.dw.frozen 1; have f2 := HT.out.dw.frozen 2; have f3 := HT.out.dw.frozen 3; have f4 := HT.out.dw.frozen 4
                go_wp2
                refine bodyPost_ret (results_ct rfl _ _ w.heap.size 28 #[.int .i64 0, .int .i64 0, .string ⟨#[]⟩, .string ⟨#[]⟩, .bool false] (0, 0) _ rfl (blk_set5 HT.out.dw.blk rfl _ _ _ _ _) Tryd.underlying28 rfl size28) rfl ?_
                exact ⟨by rw [hE.out]; rfl, below_set5 HT.out.dw.bel (Nat.le_refl _) _ _ _ _ _⟩
              | true =>
                have hpe := pathE_t hpl
                cases hnm : named k with
                | false =>
                  have hE := Aside0.mk (show R = (0, k, s.data.toList, p.data.toList, h) by rw [hE0.out]; unfold dirE; rw [if_pos ⟨hpl, fun e => by rw [hnm] at e; cases e⟩])
                  have z0 := HT.out.dw.cell 0; have z1 := HT.out.dw.cell 1; have z2 := HT.out.dw.cell 2; have z3 := HT.out.dw.cell 3; have z4 := HT.out.dw.cell 4
                  have f0 := HT.out.dw.frozen 0; have f1 := HT.out.dw.frozen 1; have f2 := HT.out.dw.frozen 2; have f3 := HT.out.dw.frozen 3; have f4 := HT.out.dw.frozen 4
                  have t0 := (blk_cell HT.out.b6 0).trans rfl; have t1 := (blk_cell HT.out.b6 1).trans rfl; have t2 := (blk_cell HT.out.b6 2).trans rfl; have t3 := (blk_cell HT.out.b6 3).trans rfl; have t4 := (blk_cell HT.out.b6 4).trans rfl
                  go_wp2
                  refine bodyPost_ret (results_ct rfl _ _ w.heap.size 28 #[.int .i64 k, .int .i64 0, .string s, .string p, .bool h] (0, 0) _ rfl (blk_set5 HT.out.dw.blk rfl _ _ _ _ _) Tryd.underlying28 rfl size28) rfl ?_
                  exact ⟨by rw [hE.out]; simp [tokV, data_back], below_set5 HT.out.dw.bel (Nat.le_refl _) _ _ _ _ _⟩
                | true =>
                  go_wp2_with fail
                  refine (isName_any s _).mono ?_
                  rintro e w2 ⟨rfl, HB2⟩
                  replace HT := Aside0.mk (HT.out.below HB2)
                  clear t2 q0 HB2
                  cases hnl : nameL s.data.toList with
                  | false =>
                    have hE := Aside0.mk (show R = (11, zeroT) by rw [hE0.out]; unfold dirE; rw [if_neg (fun e => by have := e.2 hnm; rw [hnl] at this; cases this)])
                    have z0 := HT.out.dw.cell 0; have z1 := HT.out.dw.cell 1; have z2 := HT.out.dw.cell 2; have z3 := HT.out.dw.cell 3; have z4 := HT.out.dw.cell 4
                    have f0 := HT.out.dw.frozen 0; have f1 := HT.out.dw.frozen 1; have f2 := HT.out.dw.frozen 2; have f3 := HT.out.dw.frozen 3; have f4 := HT.out.dw.frozen 4
                    go_wp2
                    refine bodyPost_ret (results_ct rfl _ _ w.heap.size 28 #[.int .i64 0, .int .i64 0, .string ⟨#[]⟩, .string ⟨#[]⟩, .bool false] (0, 0) _ rfl (blk_set5 HT.out.dw.blk rfl _ _ _ _ _) Tryd.underlying28 rfl size28) rfl ?_
                    exact ⟨by rw [hE.out]; rfl, below_set5 HT.out.dw.bel (Nat.le_refl _) _ _ _ _ _⟩
                  | true =>
                    have hE := Aside0.mk (show R = (0, k, s.data.toList, p.data.toList, h) by rw [hE0.out]; unfold dirE; rw [if_pos ⟨hpl, fun _ => hnl⟩])
                    have z0 := HT.out.dw.cell 0; have z1 := HT.out.dw.cell 1; have z2 := HT.out.dw.cell 2; have z3 := HT.out.dw.cell 3; have z4 := HT.out.dw.cell 4
                    have f0 := HT.out.dw.frozen 0; have f1 := HT.out.dw.frozen 1; have f2 := HT.out.dw.frozen 2; have f3 := HT.out.dw.frozen 3; have f4 := HT.out.dw.frozen 4
                    have t0 := (blk_cell HT.out.b6 0).trans rfl; have t1 := (blk_cell HT.out.b6 1).trans rfl; have t2 := (blk_cell HT.out.b6 2).trans rfl; have t3 := (blk_cell HT.out.b6 3).trans rfl; have t4 := (blk_cell HT.out.b6 4).trans rfl
                    go_wp2
                    refine bodyPost_ret (results_ct rfl _ _ w.heap.size 28 #[.int .i64 k, .int .i64 0, .string s, .string p, .bool h] (0, 0) _ rfl (blk_set5 HT.out.dw.blk rfl _ _ _ _ _) Tryd.underlying28 rfl size28) rfl ?_
                    exact ⟨by rw [hE.out]; simp [tokV, data_back], below_set5 HT.out.dw.bel (Nat.le_refl _) _ _ _ _ _⟩
            obtain rfl : i = 0 := by omega
            cases rest with
            | nil => exact absurd hn3.out (by rw [List.length_nil]; omega)
            | cons y l2 =>
              obtain rfl : l2 = [] := List.eq_nil_of_length_eq_zero (by have := hn3.out; rw [List.length_cons] at this; omega)
              obtain ⟨ad, rfl, y2⟩ := Kd.at_string hC'.out 0 (Int.le_refl _) (by omega)
              obtain ⟨b2, o2, sp2⟩ := ad
              have y2 : w.cell? ⟨b2, o2, sp2⟩ = some (.string y) := by simpa [rdOf, Addr.add] using y2
              have y3 : wr.cell? ⟨b2, o2, sp2⟩ = some (.string y) := (HT.out.dw.bel.cell (World.block_lt_of_cell? _ _ y2)).trans y2
              have hK : R = if Lib.hasPrefix y.data.toList [46] = true then dirE k s.data.toList (y.data.toList.drop 1) true else (5, zeroT) := hR5.out
              replace hK := Aside0.mk hK
              have hyz := hz'.out y (by simp)
              have t3 := (blk_cell HT.out.b6 3).trans rfl
              have t4 := (blk_cell HT.out.b6 4).trans rfl
              have u3 := blk_frozen HT.out.b6 3
              have u4 := blk_frozen HT.out.b6 4
              clear y2 hend hR5
              go_wp2_with fail
              refine (Tryd.strings_CutPrefix y ⟨#[46]⟩ _).mono ?_
              rintro e w1 ⟨rfl, rfl⟩
              cases hp : Lib.hasPrefix y.data.toList [46] with
              | false =>
                have hp' : Lib.hasPrefix y.data.toList (⟨#[46]⟩ : ByteArray).data.toList = false := hp
                have hE := Aside0.mk (show R = (5, zeroT) by rw [hK.out, if_neg (by rw [hp]; decide)])
                generalize (⟨(Lib.trimPrefix y.data.toList (⟨#[46]⟩ : ByteArray).data.toList).toArray⟩ : ByteArray) = p2 at *
                have HT2 := Aside0.mk (HT.out.path p2 false)
                have z0 := HT2.out.dw.cell 0; have z1 := HT2.out.dw.cell 1; have z2 := HT2.out.dw.cell 2; have z3 := HT2.out.dw.cell 3; have z4 := HT2.out.dw.cell 4
                have f0 := HT2.out.dw.frozen 0; have f1 := HT2.out.dw.frozen 1; have f2 := HT2.out.dw.frozen 2; have f3 := HT2.out.dw.frozen 3; have f4 := HT2.out.dw.frozen 4
                go_wp2
                refine bodyPost_ret (results_ct rfl _ _ w.heap.size 28 #[.int .i64 0, .int .i64 0, .string ⟨#[]⟩, .string ⟨#[]⟩, .bool false] (0, 0) _ rfl (blk_set5 HT2.out.dw.blk rfl _ _ _ _ _) Tryd.underlying28 rfl size28) rfl ?_
                exact ⟨by rw [hE.out]; rfl, below_set5 HT2.out.dw.bel (Nat.le_refl _) _ _ _ _ _⟩
              | true =>
                have hp' : Lib.hasPrefix y.data.toList (⟨#[46]⟩ : ByteArray).data.toList = true := hp
                have HT2 := Aside0.mk (HT.out.path ⟨(Lib.trimPrefix y.data.toList (⟨#[46]⟩ : ByteArray).data.toList).toArray⟩ true)
                have hE := Aside0.mk (show R = dirE k s.data.toList (⟨(Lib.trimPrefix y.data.toList (⟨#[46]⟩ : ByteArray).data.toList).toArray⟩ : ByteArray).data.toList true by rw [hK.out, if_pos hp]; unfold Lib.trimPrefix; rw [if_pos hp]; rfl)
                have htz : (⟨(Lib.trimPrefix y.data.toList (⟨#[46]⟩ : ByteArray).data.toList).toArray⟩ : ByteArray).size ≤ 65536 := by
                  show (Lib.trimPrefix _ _).toArray.size ≤ _
                  rw [List.size_toArray]; unfold Lib.trimPrefix; rw [if_pos hp', List.length_drop, data_length]; omega
                generalize (⟨(Lib.trimPrefix y.data.toList (⟨#[46]⟩ : ByteArray).data.toList).toArray⟩ : ByteArray) = p2 at *
                go_wp2
                go_roundw
                case rel => exact ⟨1, by simp [intOf], by omega, p2, true, htz, HT2.out, fun _ => hE.out⟩
                case measure => simp [intOf]; omega
end Go.Proofs.YtgdpojleejdfaaaDoor.Px
