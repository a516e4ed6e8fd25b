import Derived.Test.YtkpnfejfbmandaaDoorCIM4
import Derived.Deep.RegionHeld
import Derived.Deep.RegionWith
import Derived.Test.YtkpnfejfbmandaaDoorCIM3
import Derived.WalkMore
import Derived.Shelf.Abstract
/- Merged texts: Di Lf Lx Xt. -/
namespace Go.Proofs.YtkpnfejfbmandaaDoor.Px
open Go.RowKit Go.Proofs.YtkpnfejfbmandaaDoorW.PrintWords Go.Proofs.YtkpnfejfbmandaaDoorW.PrintLast Go.Proofs.YtkpnfejfbmandaaDoorW.PrintMore
set_option linter.unusedVariables false
set_option linter.unusedSimpArgs false
theorem cell_al {w : World} {a : Addr} {v : Value} (h : w.cell? a = some v) (o : Obj) : (w.alloc o).cell? a = some v := pw_cell_below ((Below.refl _ _).alloc (Nat.le_refl _) o) h
structure Shapes (w : World) : Prop where
  c0 : ∀ k : Int, 1 ≤ k → k ≤ 8 → w.cell? ⟨1, k.toNat * 3, none⟩ = some (.bool (named k))
  c1 : ∀ k : Int, 1 ≤ k → k ≤ 8 → w.cell? ⟨1, k.toNat * 3 + 1, none⟩ = some (.int .i64 (leastOf k))
  c2 : ∀ k : Int, 1 ≤ k → k ≤ 8 → w.cell? ⟨1, k.toNat * 3 + 2, none⟩ = some (.int .i64 (mostOf k))
theorem Shapes.below {w w1 : World} (h : Shapes w) (hb : Below w.heap.size w w1) : Shapes w1 := by
  have e : ∀ {a : Addr} {v : Value}, w.cell? a = some v → w1.cell? a = some v := fun h => (hb.cell (World.block_lt_of_cell? _ _ h)).trans h
  exact ⟨fun k a b => e (h.c0 k a b), fun k a b => e (h.c1 k a b), fun k a b => e (h.c2 k a b)⟩
def tokV (t : T4) : Value := .agg #[.int .i64 t.1, .int .i64 0, .string ⟨t.2.1.toArray⟩, .string ⟨t.2.2.1.toArray⟩, .bool t.2.2.2]
theorem data_back (s : ByteArray) : (⟨s.data.toList.toArray⟩ : ByteArray) = s := by obtain ⟨⟨l⟩⟩ := s; rfl
theorem kwKind_mem {l : List UInt8} {k : Int} (h : kwKind l = some k) : (l, k) ∈ kwList := by
  unfold kwKind at h
  rw [Option.map_eq_some_iff] at h
  obtain ⟨p, hp, rfl⟩ := h
  have h1 := List.mem_of_find?_eq_some hp
  have h2 := List.find?_some hp
  rw [beq_iff_eq] at h2
  rw [← h2]
  exact h1
theorem kwKind_of {l : List UInt8} {k : Int} (h : (l, k) ∈ kwList) : kwKind l = some k := by
  simp only [kwList, List.mem_cons, Prod.mk.injEq, List.not_mem_nil, or_false] at h
  rcases h with ⟨rfl, rfl⟩ | ⟨rfl, rfl⟩ | ⟨rfl, rfl⟩ | ⟨rfl, rfl⟩ | ⟨rfl, rfl⟩ | ⟨rfl, rfl⟩ | ⟨rfl, rfl⟩ <;> rfl
theorem kwHas (l : List UInt8) : Maps.has kwD (.string l) = (kwKind l).isSome := by
  cases h : kwKind l with
  | some k => rw [kw_has (kwKind_mem h)]; rfl
  | none =>
    rw [Option.isSome_none, ← Bool.not_eq_true]
    intro hh
    obtain ⟨c, hc⟩ := kw_mem hh
    rw [kwKind_of hc] at h
    cases h
theorem kwKey9 (x : ByteArray) (h : x.size ≤ 100000) : keyOf Tryd.prog 9 (.string x) = some (.string x.data.toList) := by
  have := Go.WideMaps.keyOf_string_mk (s := x) Tryd.underlying9 (by unfold maxLen; omega)
  simpa using this
set_option maxRecDepth 100000 in
theorem kw_look {w1 : World} {b : Nat} (hO : w1.ownsMap Tryd.prog 9 (plainElem (H := Unit) Tryd.prog 3) b 7 kwD) (x : ByteArray) (hx : x.size ≤ 100000) :
    ∃ c : Int, (Instr.lookup 127 (.map (some b)) (.string x) true).run Tryd.prog w1 = .ok (.tuple #[.int .i64 c, .bool (kwKind x.data.toList).isSome]) w1 ∧ ∀ k, kwKind x.data.toList = some k → c = k := by
  obtain ⟨v, ps, hrun, hv⟩ := hO.look_ok law9 Tryd.underlying127 (z := .int .i64 0) rfl (plainElem_int Tryd.underlying3 (by decide)) (kwKey9 x hx)
  obtain ⟨c, rfl, hc, _⟩ := plainElem_int_inv Tryd.underlying3 hv
  rw [kwHas] at hrun
  refine ⟨c, hrun, fun k hk => ?_⟩
  have h1 := congrArg Prod.fst hc
  rw [kw_at (kwKind_mem hk)] at h1
  simpa using h1.symm
theorem blk_set5 {w : World} {g t : Nat} {cs : Array Value} (h : w.heap[g]? = some (.cells cs t (0, 0))) (hs : cs.size = 5) (a b c d e : Value) :
    (((((w.setCell ⟨g, 0, none⟩ a).setCell ⟨g, 1, none⟩ b).setCell ⟨g, 2, none⟩ c).setCell ⟨g, 3, none⟩ d).setCell ⟨g, 4, none⟩ e).heap[g]? = some (.cells #[a, b, c, d, e] t (0, 0)) := by
  have h5 := blk_set (blk_set (blk_set (blk_set (blk_set h 0 a) 1 b) 2 c) 3 d) 4 e
  refine h5.trans (congrArg (fun x => some (Obj.cells x t (0, 0))) ?_)
  clear h h5
  obtain ⟨l⟩ := cs
  match l, hs with
  | [x0, x1, x2, x3, x4], _ => simp only [List.setIfInBounds_toArray, List.set_cons_zero, List.set_cons_succ]
theorem below_set5 {B : Nat} {w0 w : World} {g : Nat} (h : Below B w0 w) (hg : B ≤ g) (a b c d e : Value) :
    Below B w0 (((((w.setCell ⟨g, 0, none⟩ a).setCell ⟨g, 1, none⟩ b).setCell ⟨g, 2, none⟩ c).setCell ⟨g, 3, none⟩ d).setCell ⟨g, 4, none⟩ e) :=
  ((((h.setCell hg a).setCell hg b).setCell hg c).setCell hg d).setCell hg e
theorem size28 : (Tryd.prog.info? 76).map (·.size) = some 5 := by kernel_rfl
def z5 : Array Value := #[.int .i64 0, .int .i64 0, .string ⟨#[]⟩, .string ⟨#[]⟩, .bool false]
structure DiW (w wc : World) : Prop where
  blk : wc.heap[w.heap.size]? = some (.cells #[.int .i64 0, .int .i64 0, .string ⟨#[]⟩, .string ⟨#[]⟩, .bool false] 76 (0, 0))
  bel : Below w.heap.size w wc
theorem DiW.below {w wc wd : World} (h : DiW w wc) (hb : Below wc.heap.size wc wd) : DiW w wd := ⟨blk_below h.blk hb, below_step h.bel hb⟩
theorem DiW.drew {w wc : World} (h : DiW w wc) : DiW w wc.drew := ⟨h.blk, h.bel.drew⟩
theorem DiW.cell {w wc : World} (h : DiW w wc) (i : Nat) : wc.cell? ⟨w.heap.size, i, none⟩ = (#[.int .i64 0, .int .i64 0, .string ⟨#[]⟩, .string ⟨#[]⟩, .bool false] : Array Value)[i]? := blk_cell h.blk i
theorem DiW.frozen {w wc : World} (h : DiW w wc) (i : Nat) : wc.frozen? ⟨w.heap.size, i, none⟩ = false := blk_frozen h.blk i
def DiR1 (w : World) (l : List UInt8) (v4 v5 : Value) (wc : World) : Prop := ∃ kc : Int, v4 = .int .i64 kc ∧ v5 = .bool (kwKind l).isSome ∧ (∀ k, kwKind l = some k → kc = k) ∧ DiW w wc
structure DiT (w : World) (k : Int) (s p : ByteArray) (h : Bool) (g6 g7 : Nat) (wc : World) : Prop where
  b6 : wc.heap[g6]? = some (.cells #[.int .i64 k, .int .i64 0, .string s, .string p, .bool h] 76 (0, 0))
  b7 : wc.heap[g7]? = some (.cells #[.bool (named k), .int .i64 (leastOf k), .int .i64 (mostOf k)] 155 (0, 0))
  l6 : w.heap.size < g6
  l7 : w.heap.size < g7
  ne : g6 ≠ g7
  dw : DiW w wc
theorem DiT.below {w wc wd : World} {k : Int} {s p : ByteArray} {h : Bool} {g6 g7 : Nat} (t : DiT w k s p h g6 g7 wc) (hb : Below wc.heap.size wc wd) : DiT w k s p h g6 g7 wd :=
  ⟨blk_below t.b6 hb, blk_below t.b7 hb, t.l6, t.l7, t.ne, t.dw.below hb⟩
theorem DiT.drew {w wc : World} {k : Int} {s p : ByteArray} {h : Bool} {g6 g7 : Nat} (t : DiT w k s p h g6 g7 wc) : DiT w k s p h g6 g7 wc.drew := ⟨t.b6, t.b7, t.l6, t.l7, t.ne, t.dw.drew⟩
theorem DiW.set {w wc : World} (h : DiW w wc) {g : Nat} (hg : w.heap.size < g) (i : Nat) (v : Value) : DiW w (wc.setCell ⟨g, i, none⟩ v) :=
  ⟨blk_far' h.blk (by omega) v, h.bel.setCell (Nat.le_of_lt hg) v⟩
theorem DiT.name {w wc : World} {k : Int} {s p : ByteArray} {h : Bool} {g6 g7 : Nat} (t : DiT w k s p h g6 g7 wc) (s' : ByteArray) : DiT w k s' p h g6 g7 (wc.setCell ⟨g6, 2, none⟩ (.string s')) :=
  ⟨(blk_set t.b6 2 (.string s')).trans rfl, blk_far' t.b7 (fun e => t.ne e.symm) _, t.l6, t.l7, t.ne, t.dw.set t.l6 _ _⟩
theorem DiT.path {w wc : World} {k : Int} {s p : ByteArray} {h : Bool} {g6 g7 : Nat} (t : DiT w k s p h g6 g7 wc) (p' : ByteArray) (h' : Bool) : DiT w k s p' h' g6 g7 ((wc.setCell ⟨g6, 3, none⟩ (.string p')).setCell ⟨g6, 4, none⟩ (.bool h')) :=
  ⟨(blk_set (blk_set t.b6 3 (.string p')) 4 (.bool h')).trans rfl, blk_far' (blk_far' t.b7 (fun e => t.ne e.symm) _) (fun e => t.ne e.symm) _, t.l6, t.l7, t.ne, (t.dw.set t.l6 _ _).set t.l6 _ _⟩
def lsX (xs : List ByteArray) : List (List UInt8) := xs.map (·.data.toList)
def DiR3 (w : World) (k : Int) (v6 v7 : Value) (wc : World) : Prop := ∃ (g6 g7 : Nat), v6 = .pointer (some ⟨g6, 0, none⟩) ∧ v7 = .pointer (some ⟨g7, 0, none⟩) ∧ DiT w k ⟨#[]⟩ ⟨#[]⟩ false g6 g7 wc
def DiR4 (w : World) (R : Int × T4) (k : Int) (g6 g7 : Nat) (v0 : Value) (wc : World) : Prop := ∃ (A : Option Addr) (c : Nat) (rest : List ByteArray) (s : ByteArray), v0 = .slice A rest.length c ∧ R = dirP k s.data.toList (lsX rest) ∧
  Kd.C Kd.string w A rest.length rest ∧ rest.length ≤ c ∧ (∀ x ∈ rest, x.size ≤ 65536) ∧ s.size ≤ 65536 ∧ DiT w k s ⟨#[]⟩ false g6 g7 wc
def DiLp (w : World) (R : Int × T4) (k : Int) (s : ByteArray) (n : Nat) (g6 g7 : Nat) (v : Value) (wc : World) : Prop := ∃ i : Nat, v = .int .i64 i ∧ i ≤ n ∧
  ∃ p h, p.size ≤ 65536 ∧ DiT w k s p h g6 g7 wc ∧ (i = n → R = dirE k s.data.toList p.data.toList h)
def DiR2 (w : World) (R : Int × T4) (v0 v4 _v5 : Value) (wc : World) : Prop := ∃ (A : Option Addr) (c : Nat) (rest : List ByteArray) (k : Int), v0 = .slice A rest.length c ∧ v4 = .int .i64 k ∧ 1 ≤ k ∧ k ≤ 8 ∧ R = dirK k (lsX rest) ∧
  Kd.C Kd.string w A rest.length rest ∧ rest.length ≤ c ∧ (∀ x ∈ rest, x.size ≤ 65536) ∧ DiW w wc
theorem kw_range {l : List UInt8} {k : Int} (h : kwKind l = some k) : 1 ≤ k ∧ k ≤ 8 := by
  have h := kwKind_mem h
  simp only [kwList, List.mem_cons, Prod.mk.injEq, List.not_mem_nil, or_false] at h
  rcases h with ⟨_, rfl⟩ | ⟨_, rfl⟩ | ⟨_, rfl⟩ | ⟨_, rfl⟩ | ⟨_, rfl⟩ | ⟨_, rfl⟩ | ⟨_, rfl⟩ <;> decide
set_option maxRecDepth 100000 in
theorem info9d : ∃ i, Tryd.prog.info? 9 = some i ∧ i.size = 1 := ⟨_, rfl, rfl⟩
def cutA (A : Option Addr) (c : Nat) : Option Addr := if c = 1 then A else A.map (·.add 1)
theorem cutA_C {w : World} {A : Option Addr} {c : Nat} {x : ByteArray} {l : List ByteArray} (h : Kd.C Kd.string w A (x :: l).length (x :: l)) (hc : (x :: l).length ≤ c) : Kd.C Kd.string w (cutA A c) l.length l :=
  Kd.C_drop (m := 1) h (by rw [List.length_cons]; omega) hc
theorem cut1 (A : Option Addr) (n c : Nat) (h : 1 ≤ n) : ∀ W : World, (Instr.slice 114 (.slice A n c) (some (.int .i64 1)) none none).run Tryd.prog W = .ok (.slice (cutA A c) (n - 1) (c - 1)) W := by
  obtain ⟨i, hi, hsz⟩ := info9d
  exact cut_from 114 9 .i64 Tryd.underlying114 hi 1 hsz A n c 1 (by decide) (by omega)
set_option maxHeartbeats 2000000 in
set_option maxRecDepth 100000 in
theorem directive_any (ws : List ByteArray) (A : Option Addr) (c : Nat) (w : World) (hG : Glob w) (hS : Shapes w) (hC : Kd.C Kd.string w A ws.length ws) (hc : ws.length ≤ c) (hz : ∀ x ∈ ws, x.size ≤ 65536) :
    Calls Tryd.prog 52 #[.slice A ws.length c] w fun e w' => e = .returned (.tuple #[tokV (dirF (ws.map (·.data.toList))).2, .int .i64 (dirF (ws.map (·.data.toList))).1]) ∧ Below w.heap.size w w' := by
  cases ws with
  | nil =>
    generalize hR : dirF (([] : List ByteArray).map (·.data.toList)) = R at *
    have hR : R = (5, zeroT) := hR.symm
    go_enter Tryd.func52, Tryd.ntmps52
    go_wp2
    refine bodyPost_ret (results_ct rfl _ _ w.heap.size 76 #[.int .i64 0, .int .i64 0, .string ⟨#[]⟩, .string ⟨#[]⟩, .bool false] (0, 0) _ rfl (blk_new _ _) Tryd.underlying76 rfl size28) rfl ?_
    exact ⟨by rw [hR]; rfl, (Below.refl _ _).alloc (Nat.le_refl _) _⟩
  | cons x l =>
  have hm := Kd.C_max hC
  have hx := hz x (by simp)
  have hD : dirF ((x :: l).map (·.data.toList)) = (match kwKind x.data.toList with
    | some k => dirK k (l.map (·.data.toList))
    | none => if Lib.hasPrefix x.data.toList [46] = true then dirK 1 ((x :: l).map (·.data.toList)) else (5, zeroT)) := rfl
  have hl0 : (((x :: l).length : Int) == 0) = false := by rw [beq_eq_false_iff_ne, List.length_cons]; omega
  generalize dirF ((x :: l).map (·.data.toList)) = R at *
  obtain ⟨ad, rfl, y0⟩ := Kd.at_string hC 0 (Int.le_refl _) (by rw [List.length_cons]; omega)
  obtain ⟨b, o, sp⟩ := ad
  have y0 : w.cell? ⟨b, o, sp⟩ = some (.string x) := by simpa [rdOf, Addr.add] using y0
  have hb := World.block_lt_of_cell? _ _ y0
  replace hC := Aside0.mk hC
  replace hS := Aside0.mk hS
  replace hG := Aside0.mk hG
  have hzz := Aside0.mk hz; clear hz
  replace hD := Aside0.mk hD
  have hl1 : 0 < ((x :: l).length : Int) := by rw [List.length_cons]; omega
  generalize hn : (x :: l).length = n at *
  replace hn := Aside0.mk hn
  go_enter Tryd.func52, Tryd.ntmps52
  go_wp2_with fail
  have y1 : (w.alloc (.cells #[.int .i64 0, .int .i64 0, .string ⟨#[]⟩, .string ⟨#[]⟩, .bool false] 76)).cell? ⟨b, o, sp⟩ = some (.string x) := (World.cell?_alloc_some w _ _ (by rw [y0]; rfl)).trans y0
  have HB := Aside0.mk ((Below.refl w.heap.size w).alloc (Nat.le_refl _) (.cells #[.int .i64 0, .int .i64 0, .string ⟨#[]⟩, .string ⟨#[]⟩, .bool false] 76))
  have hblk := Aside0.mk (blk_new w (.cells #[.int .i64 0, .int .i64 0, .string ⟨#[]⟩, .string ⟨#[]⟩, .bool false] 76))
  have hzr : (zeroValue 3).run Tryd.prog = fun w => .ok (.int .i64 0) w := rfl
  clear y0
  generalize w.alloc (.cells #[.int .i64 0, .int .i64 0, .string ⟨#[]⟩, .string ⟨#[]⟩, .bool false] 76) = w0 at *
  have HW : Aside0 (DiW w w0) := ⟨⟨hblk.out, HB.out⟩⟩
  clear hblk HB
  go_cut [4, 5] (fun v4 v5 wc => DiR1 w x.data.toList v4 v5 wc)
  case first =>
    go_region_with (go_at_call 71; (with_reducible refine (keywords_any _).mono ?_); rintro e w1 ⟨rfl, hO, hB1⟩
                    have y2 : w1.cell? ⟨b, o, sp⟩ = some (.string x) := (hB1.cell (World.block_lt_of_cell? _ _ y1)).trans y1
                    obtain ⟨kc, hlk0, hkc⟩ := kw_look hO x (by omega)
                    have hlk : (Instr.lookup 127 (.map (some w0.heap.size)) (.string x) true).run Tryd.prog w1 = _ := hlk0
                    clear hlk0
                    replace hkc := Aside0.mk hkc
                    clear hO
                    replace hB1 := Aside0.mk hB1)
    all_goals
      go_wp2
      go_meet
      case rel => exact ⟨kc, rfl, rfl, hkc.out, (DiW.drew HW.out).below hB1.out⟩
  case rest =>
    clear hzr y1 HW
    obtain ⟨kc, rfl, rfl, hkc, HW⟩ := hcut
    replace HW := Aside0.mk HW
    have y2 : wc.cell? ⟨b, o, sp⟩ = some (.string x) := by
      rw [HW.out.bel.cell hb]
      simpa [rdOf, Addr.add] using y0
    clear y0
    have hw1 := cut1 (some ⟨b, o, sp⟩) n c (by omega)
    go_upto_block 0 with fail
    go_cut [0, 4, 5] (fun v0 v4 v5 wd => DiR2 w R v0 v4 v5 wd)
    case first =>
      have hll : l.length = n - 1 := by have := hn.out; rw [List.length_cons] at this; omega
      have hCl := Aside0.mk (show Kd.C Kd.string w (cutA (some ⟨b, o, sp⟩) c) l.length l from cutA_C (x := x) (by rw [hn.out]; exact hC.out) (by rw [hn.out]; exact hc))
      cases hk : kwKind x.data.toList with
      | some k =>
        obtain ⟨k1, k8⟩ := kw_range hk
        have hR := Aside0.mk (show R = dirK k (lsX l) by rw [hD.out, hk]; rfl)
        generalize cutA (some ⟨b, o, sp⟩) c = A' at *
        obtain rfl := hkc k hk
        clear hk hkc
        go_wp2
        go_meet
        case rel => exact ⟨A', c - 1, l, kc, by rw [hll], rfl, k1, k8, hR.out, hCl.out, by omega, fun y hy => hzz.out y (by simp [hy]), HW.out⟩
      | none =>
        clear hkc
        go_wp2_with fail
        refine (Tryd.strings_HasPrefix x ⟨#[46]⟩ _).mono ?_
        rintro e w1 ⟨rfl, rfl⟩
        cases hp : Lib.hasPrefix x.data.toList [46] with
        | true =>
          have hR := Aside0.mk (show R = dirK 1 (lsX (x :: l)) by rw [hD.out, hk]; dsimp only; rw [if_pos hp]; rfl)
          have hp' : Lib.hasPrefix x.data.toList (⟨#[46]⟩ : ByteArray).data.toList = true := hp
          go_wp2
          go_meet
          case rel => exact ⟨some ⟨b, o, sp⟩, c, x :: l, 1, by rw [hn.out], rfl, by decide, by decide, hR.out, by rw [hn.out]; exact hC.out, by rw [hn.out]; exact hc, hzz.out, HW.out⟩
        | false =>
          have hR := Aside0.mk (show R = (5, zeroT) by rw [hD.out, hk]; dsimp only; rw [if_neg (by rw [hp]; decide)])
          have hp' : Lib.hasPrefix x.data.toList (⟨#[46]⟩ : ByteArray).data.toList = false := hp
          have z0 := HW.out.cell 0; have z1 := HW.out.cell 1; have z2 := HW.out.cell 2; have z3 := HW.out.cell 3; have z4 := HW.out.cell 4
          have f0 := HW.out.frozen 0; have f1 := HW.out.frozen 1; have f2 := HW.out.frozen 2; have f3 := HW.out.frozen 3; have f4 := HW.out.frozen 4
          go_wp2
          refine bodyPost_ret (results_ct rfl _ _ w.heap.size 76 #[.int .i64 0, .int .i64 0, .string ⟨#[]⟩, .string ⟨#[]⟩, .bool false] (0, 0) _ rfl (blk_set5 HW.out.blk rfl _ _ _ _ _) Tryd.underlying76 rfl size28) rfl ?_
          exact ⟨by rw [hR.out]; rfl, below_set5 HW.out.bel (Nat.le_refl _) _ _ _ _ _⟩
    case rest =>
      obtain ⟨A, c', rest, k, rfl, rfl, k1, k8, hR, hC', hc', hz', HW⟩ := hcut
      replace HW := Aside0.mk HW
      replace hC' := Aside0.mk hC'
      replace hR := Aside0.mk hR
      replace hz' := Aside0.mk hz'
      have hm' := Kd.C_max hC'.out
      have s0 := (hS.out.below HW.out.bel).c0 k k1 k8
      have s1 := (hS.out.below HW.out.bel).c1 k k1 k8
      have s2 := (hS.out.below HW.out.bel).c2 k k1 k8
      have hp0 : 1 < wc.heap.size := World.block_lt_of_cell? _ _ s0
      have s0a := fun o1 => cell_al s0 o1
      have s0b := fun o1 o2 => cell_al (cell_al s0 o1) o2
      have s1a := fun o1 => cell_al s1 o1
      have s1b := fun o1 o2 => cell_al (cell_al s1 o1) o2
      have s2a := fun o1 => cell_al s2 o1
      have s2b := fun o1 o2 => cell_al (cell_al s2 o1) o2
      have k0 : 0 ≤ k := by omega
      have k9 : k < 9 := by omega
      go_upto_region 9 with fail
      go_cut [6, 7] (fun v6 v7 wd => DiR3 w k v6 v7 wd)
      case first =>
        go_region
        all_goals
          go_wp2
          go_meet
          case rel =>
            have hlt := blk_lt HW.out.blk
            first
            | exact ⟨wc.heap.size, wc.heap.size + 1, rfl, rfl, blk_alloc (blk_new wc _) _, blk_new' (by simp), hlt, by omega, by omega, blk_alloc (blk_alloc HW.out.blk _) _, (below_alloc (below_alloc HW.out.bel _) _).drew⟩
            | exact ⟨wc.heap.size + 1, wc.heap.size, rfl, rfl, blk_new' (by simp), blk_alloc (blk_new wc _) _, by omega, hlt, by omega, blk_alloc (blk_alloc HW.out.blk _) _, (below_alloc (below_alloc HW.out.bel _) _).drew⟩
      case rest =>
        clear s0 s1 s2 s0a s0b s1a s1b s2a s2b hp0 HW
        obtain ⟨g6, g7, rfl, rfl, HT⟩ := hcut
        have y0 := (blk_cell HT.b7 0).trans rfl
        replace HT := Aside0.mk HT
        go_upto_if 40 with fail
        go_cut [0, 40] (fun v0 _ wd => DiR4 w R k g6 g7 v0 wd)
        case first =>
          cases hnm : named k with
          | false =>
            have hR4 := Aside0.mk (show R = dirP k (⟨#[]⟩ : ByteArray).data.toList (lsX rest) by rw [hR.out]; unfold dirK; rw [if_neg (by rw [hnm]; decide)])
            go_wp2
            go_meet
            case rel => exact ⟨A, c', rest, ⟨#[]⟩, rfl, hR4.out, hC'.out, hc', hz'.out, by decide, HT.out⟩
          | true =>
            cases rest with
            | nil =>
              have hE := Aside0.mk (show R = (5, zeroT) by rw [hR.out]; unfold dirK; rw [if_pos hnm]; rfl)
              have z0 := HT.out.dw.cell 0; have z1 := HT.out.dw.cell 1; have z2 := HT.out.dw.cell 2; have z3 := HT.out.dw.cell 3; have z4 := HT.out.dw.cell 4
              have f0 := HT.out.dw.frozen 0; have f1 := HT.out.dw.frozen 1; have f2 := HT.out.dw.frozen 2; have f3 := HT.out.dw.frozen 3; have f4 := HT.out.dw.frozen 4
              go_wp2
              refine bodyPost_ret (results_ct rfl _ _ w.heap.size 76 #[.int .i64 0, .int .i64 0, .string ⟨#[]⟩, .string ⟨#[]⟩, .bool false] (0, 0) _ rfl (blk_set5 HT.out.dw.blk rfl _ _ _ _ _) Tryd.underlying76 rfl size28) rfl ?_
              exact ⟨by rw [hE.out]; rfl, below_set5 HT.out.dw.bel (Nat.le_refl _) _ _ _ _ _⟩
            | cons y l2 =>
              have hK : R = if Lib.hasPrefix y.data.toList [46] = true then (5, zeroT) else dirP k y.data.toList (lsX l2) := by rw [hR.out]; unfold dirK; rw [if_pos hnm]; rfl
              have hl2 : (((y :: l2).length : Int) == 0) = false := by rw [beq_eq_false_iff_ne, List.length_cons]; omega
              have hl3 : 0 < ((y :: l2).length : Int) := by rw [List.length_cons]; omega
              obtain ⟨ad, rfl, y2⟩ := Kd.at_string hC'.out 0 (Int.le_refl _) hl3
              obtain ⟨b2, o2, sp2⟩ := ad
              have y2 : w.cell? ⟨b2, o2, sp2⟩ = some (.string y) := by simpa [rdOf, Addr.add] using y2
              have y3 : wc.cell? ⟨b2, o2, sp2⟩ = some (.string y) := (HT.out.dw.bel.cell (World.block_lt_of_cell? _ _ y2)).trans y2
              have hw2 := cut1 (some ⟨b2, o2, sp2⟩) (y :: l2).length c' (by rw [List.length_cons]; omega)
              have hC2 := Aside0.mk (cutA_C hC'.out hc')
              have hz2 := Aside0.mk (fun q (hq : q ∈ l2) => hz'.out q (by simp [hq]))
              have hyz := hz'.out y (by simp)
              have hll2 : l2.length = (y :: l2).length - 1 := by rw [List.length_cons]; omega
              have hlc : l2.length ≤ c' - 1 := by omega
              replace hK := Aside0.mk hK
              clear y2
              generalize (y :: l2).length = n2 at *
              go_wp2_with fail
              refine (Tryd.strings_HasPrefix y ⟨#[46]⟩ _).mono ?_
              rintro e w1 ⟨rfl, rfl⟩
              cases hp : Lib.hasPrefix y.data.toList [46] with
              | true =>
                have hE := Aside0.mk (show R = (5, zeroT) by rw [hK.out, if_pos hp])
                have hp' : Lib.hasPrefix y.data.toList (⟨#[46]⟩ : ByteArray).data.toList = true := hp
                have z0 := HT.out.dw.cell 0; have z1 := HT.out.dw.cell 1; have z2 := HT.out.dw.cell 2; have z3 := HT.out.dw.cell 3; have z4 := HT.out.dw.cell 4
                have f0 := HT.out.dw.frozen 0; have f1 := HT.out.dw.frozen 1; have f2 := HT.out.dw.frozen 2; have f3 := HT.out.dw.frozen 3; have f4 := HT.out.dw.frozen 4
                go_wp2
                refine bodyPost_ret (results_ct rfl _ _ w.heap.size 76 #[.int .i64 0, .int .i64 0, .string ⟨#[]⟩, .string ⟨#[]⟩, .bool false] (0, 0) _ rfl (blk_set5 HT.out.dw.blk rfl _ _ _ _ _) Tryd.underlying76 rfl size28) rfl ?_
                exact ⟨by rw [hE.out]; rfl, below_set5 HT.out.dw.bel (Nat.le_refl _) _ _ _ _ _⟩
              | false =>
                have hR4 := Aside0.mk (show R = dirP k y.data.toList (lsX l2) by rw [hK.out, if_neg (by rw [hp]; decide)])
                have hp' : Lib.hasPrefix y.data.toList (⟨#[46]⟩ : ByteArray).data.toList = false := hp
                have q2 := (blk_cell HT.out.b6 2).trans rfl
                have r2 := blk_frozen HT.out.b6 2
                go_wp2
                go_region
                all_goals
                  go_wp2
                  go_meet
                  case rel => exact ⟨_, c' - 1, l2, y, by rw [hll2], hR4.out, hC2.out, hlc, hz2.out, hyz, HT.out.drew.name y⟩
        case rest =>
          clear hR hC' hc' hz' HT y0 hm'
          obtain ⟨A, c', rest, s, rfl, hR, hC', hc', hz', hsz, HT⟩ := hcut
          have q0 := (blk_cell HT.b7 0).trans rfl
          have q1 := (blk_cell HT.b7 1).trans rfl
          have q2 := (blk_cell HT.b7 2).trans rfl
          have hm' := Kd.C_max hC'
          generalize hn3 : rest.length = n3 at *
          replace hn3 := Aside0.mk hn3
          replace HT := Aside0.mk HT
          replace hR := Aside0.mk hR
          replace hC' := Aside0.mk hC'
          replace hz' := Aside0.mk hz'
          by_cases hless : n3 < leastOf k
          · have hb1 : decide (n3 < leastOf k) = true := decide_eq_true hless
            have hE := Aside0.mk (show R = (5, zeroT) by rw [hR.out]; unfold dirP; rw [if_pos (.inl (by rw [lsX, List.length_map, hn3.out]; exact hless))])
            have z0 := HT.out.dw.cell 0; have z1 := HT.out.dw.cell 1; have z2 := HT.out.dw.cell 2; have z3 := HT.out.dw.cell 3; have z4 := HT.out.dw.cell 4
            have f0 := HT.out.dw.frozen 0; have f1 := HT.out.dw.frozen 1; have f2 := HT.out.dw.frozen 2; have f3 := HT.out.dw.frozen 3; have f4 := HT.out.dw.frozen 4
            go_wp2
            refine bodyPost_ret (results_ct rfl _ _ w.heap.size 76 #[.int .i64 0, .int .i64 0, .string ⟨#[]⟩, .string ⟨#[]⟩, .bool false] (0, 0) _ rfl (blk_set5 HT.out.dw.blk rfl _ _ _ _ _) Tryd.underlying76 rfl size28) rfl ?_
            exact ⟨by rw [hE.out]; rfl, below_set5 HT.out.dw.bel (Nat.le_refl _) _ _ _ _ _⟩
          have hb1 : decide (n3 < leastOf k) = false := decide_eq_false hless
          by_cases hmore : mostOf k < n3
          · have hb2 : decide (mostOf k < n3) = true := decide_eq_true hmore
            have hE := Aside0.mk (show R = (5, zeroT) by rw [hR.out]; unfold dirP; rw [if_pos (.inr (by rw [lsX, List.length_map, hn3.out]; exact hmore))])
            have z0 := HT.out.dw.cell 0; have z1 := HT.out.dw.cell 1; have z2 := HT.out.dw.cell 2; have z3 := HT.out.dw.cell 3; have z4 := HT.out.dw.cell 4
            have f0 := HT.out.dw.frozen 0; have f1 := HT.out.dw.frozen 1; have f2 := HT.out.dw.frozen 2; have f3 := HT.out.dw.frozen 3; have f4 := HT.out.dw.frozen 4
            go_wp2
            refine bodyPost_ret (results_ct rfl _ _ w.heap.size 76 #[.int .i64 0, .int .i64 0, .string ⟨#[]⟩, .string ⟨#[]⟩, .bool false] (0, 0) _ rfl (blk_set5 HT.out.dw.blk rfl _ _ _ _ _) Tryd.underlying76 rfl size28) rfl ?_
            exact ⟨by rw [hE.out]; rfl, below_set5 HT.out.dw.bel (Nat.le_refl _) _ _ _ _ _⟩
          have hb2 : decide (mostOf k < n3) = false := decide_eq_false hmore
          have hone : n3 ≤ 1 := by
            have : mostOf k ≤ 1 := by unfold mostOf; split <;> omega
            omega
          have hR5 := Aside0.mk (show R = (match lsX rest with
              | [] => dirE k s.data.toList [] false
              | w :: _ => if Lib.hasPrefix w [46] = true then dirE k s.data.toList (w.drop 1) true else (5, zeroT)) by
            have hcond : ¬ ((lsX rest).length < leastOf k ∨ mostOf k < (lsX rest).length) := by rw [lsX, List.length_map, hn3.out]; omega
            rw [hR.out]
            exact if_neg hcond)
          clear hR
          go_wp2
          go_loopw [72] (fun v wr => DiLp w R k s n3 g6 g7 v wr) (fun v _ => n3 - (intOf v).toNat)
          case atStart => exact ⟨0, rfl, Nat.zero_le _, ⟨#[]⟩, false, by decide, HT.out, fun e => by rw [hR5.out, List.eq_nil_of_length_eq_zero (hn3.out.trans e.symm)]; rfl⟩
          case round =>
            clear HT q0 q1 q2
            obtain ⟨i, rfl, hi, p, h, hps, HT, hend⟩ := hrel
            replace HT := Aside0.mk HT
            by_cases hlt : i < n3
            case neg =>
              obtain rfl : i = n3 := by omega
              have hE0 := Aside0.mk (hend rfl)
              have t2 := (blk_cell HT.out.b6 2).trans rfl
              have t3 := (blk_cell HT.out.b6 3).trans rfl
              have q0 := (blk_cell HT.out.b7 0).trans rfl
              clear hend
              go_wp2_with fail
              refine (split_any p _ hps (hG.out.below HT.out.dw.bel)).mono ?_
              rintro e w1 ⟨sv, rfl, HB1⟩
              replace HT := Aside0.mk (HT.out.below HB1)
              clear t2 t3 q0 HB1
              have t2 := (blk_cell HT.out.b6 2).trans rfl
              have q0 := (blk_cell HT.out.b7 0).trans rfl
              cases hpl : pathL p.data.toList with
              | false =>
                have hpe := pathE_f hpl
                have hE := Aside0.mk (show R = (11, zeroT) by rw [hE0.out]; unfold dirE; rw [if_neg (by rw [hpl]; simp)])
                have z0 := HT.out.dw.cell 0; have z1 := HT.out.dw.cell 1; have z2 := HT.out.dw.cell 2; have z3 := HT.out.dw.cell 3; have z4 := HT.out.dw.cell 4
                have f0 := HT.out.dw.frozen 0; have f1 := HT.out.dw.frozen 1; have f2 := HT.out.dw.frozen 2; have f3 := HT.out.dw.frozen 3; have f4 := HT.out.dw.frozen 4
                go_wp2
                refine bodyPost_ret (results_ct rfl _ _ w.heap.size 76 #[.int .i64 0, .int .i64 0, .string ⟨#[]⟩, .string ⟨#[]⟩, .bool false] (0, 0) _ rfl (blk_set5 HT.out.dw.blk rfl _ _ _ _ _) Tryd.underlying76 rfl size28) rfl ?_
                exact ⟨by rw [hE.out]; rfl, below_set5 HT.out.dw.bel (Nat.le_refl _) _ _ _ _ _⟩
              | true =>
                have hpe := pathE_t hpl
                cases hnm : named k with
                | false =>
                  have hE := Aside0.mk (show R = (0, k, s.data.toList, p.data.toList, h) by rw [hE0.out]; unfold dirE; rw [if_pos ⟨hpl, fun e => by rw [hnm] at e; cases e⟩])
                  have z0 := HT.out.dw.cell 0; have z1 := HT.out.dw.cell 1; have z2 := HT.out.dw.cell 2; have z3 := HT.out.dw.cell 3; have z4 := HT.out.dw.cell 4
                  have f0 := HT.out.dw.frozen 0; have f1 := HT.out.dw.frozen 1; have f2 := HT.out.dw.frozen 2; have f3 := HT.out.dw.frozen 3; have f4 := HT.out.dw.frozen 4
                  have t0 := (blk_cell HT.out.b6 0).trans rfl; have t1 := (blk_cell HT.out.b6 1).trans rfl; have t2 := (blk_cell HT.out.b6 2).trans rfl; have t3 := (blk_cell HT.out.b6 3).trans rfl; have t4 := (blk_cell HT.out.b6 4).trans rfl
                  go_wp2
                  refine bodyPost_ret (results_ct rfl _ _ w.heap.size 76 #[.int .i64 k, .int .i64 0, .string s, .string p, .bool h] (0, 0) _ rfl (blk_set5 HT.out.dw.blk rfl _ _ _ _ _) Tryd.underlying76 rfl size28) rfl ?_
                  exact ⟨by rw [hE.out]; simp [tokV, data_back], below_set5 HT.out.dw.bel (Nat.le_refl _) _ _ _ _ _⟩
                | true =>
                  go_wp2_with fail
                  refine (isName_any s _).mono ?_
                  rintro e w2 ⟨rfl, HB2⟩
                  replace HT := Aside0.mk (HT.out.below HB2)
                  clear t2 q0 HB2
                  cases hnl : nameL s.data.toList with
                  | false =>
                    have hE := Aside0.mk (show R = (11, zeroT) by rw [hE0.out]; unfold dirE; rw [if_neg (fun e => by have := e.2 hnm; rw [hnl] at this; cases this)])
                    have z0 := HT.out.dw.cell 0; have z1 := HT.out.dw.cell 1; have z2 := HT.out.dw.cell 2; have z3 := HT.out.dw.cell 3; have z4 := HT.out.dw.cell 4
                    have f0 := HT.out.dw.frozen 0; have f1 := HT.out.dw.frozen 1; have f2 := HT.out.dw.frozen 2; have f3 := HT.out.dw.frozen 3; have f4 := HT.out.dw.frozen 4
                    go_wp2
                    refine bodyPost_ret (results_ct rfl _ _ w.heap.size 76 #[.int .i64 0, .int .i64 0, .string ⟨#[]⟩, .string ⟨#[]⟩, .bool false] (0, 0) _ rfl (blk_set5 HT.out.dw.blk rfl _ _ _ _ _) Tryd.underlying76 rfl size28) rfl ?_
                    exact ⟨by rw [hE.out]; rfl, below_set5 HT.out.dw.bel (Nat.le_refl _) _ _ _ _ _⟩
                  | true =>
                    have hE := Aside0.mk (show R = (0, k, s.data.toList, p.data.toList, h) by rw [hE0.out]; unfold dirE; rw [if_pos ⟨hpl, fun _ => hnl⟩])
                    have z0 := HT.out.dw.cell 0; have z1 := HT.out.dw.cell 1; have z2 := HT.out.dw.cell 2; have z3 := HT.out.dw.cell 3; have z4 := HT.out.dw.cell 4
                    have f0 := HT.out.dw.frozen 0; have f1 := HT.out.dw.frozen 1; have f2 := HT.out.dw.frozen 2; have f3 := HT.out.dw.frozen 3; have f4 := HT.out.dw.frozen 4
                    have t0 := (blk_cell HT.out.b6 0).trans rfl; have t1 := (blk_cell HT.out.b6 1).trans rfl; have t2 := (blk_cell HT.out.b6 2).trans rfl; have t3 := (blk_cell HT.out.b6 3).trans rfl; have t4 := (blk_cell HT.out.b6 4).trans rfl
                    go_wp2
                    refine bodyPost_ret (results_ct rfl _ _ w.heap.size 76 #[.int .i64 k, .int .i64 0, .string s, .string p, .bool h] (0, 0) _ rfl (blk_set5 HT.out.dw.blk rfl _ _ _ _ _) Tryd.underlying76 rfl size28) rfl ?_
                    exact ⟨by rw [hE.out]; simp [tokV, data_back], below_set5 HT.out.dw.bel (Nat.le_refl _) _ _ _ _ _⟩
            obtain rfl : i = 0 := by omega
            cases rest with
            | nil => exact absurd hn3.out (by rw [List.length_nil]; omega)
            | cons y l2 =>
              obtain rfl : l2 = [] := List.eq_nil_of_length_eq_zero (by have := hn3.out; rw [List.length_cons] at this; omega)
              obtain ⟨ad, rfl, y2⟩ := Kd.at_string hC'.out 0 (Int.le_refl _) (by omega)
              obtain ⟨b2, o2, sp2⟩ := ad
              have y2 : w.cell? ⟨b2, o2, sp2⟩ = some (.string y) := by simpa [rdOf, Addr.add] using y2
              have y3 : wr.cell? ⟨b2, o2, sp2⟩ = some (.string y) := (HT.out.dw.bel.cell (World.block_lt_of_cell? _ _ y2)).trans y2
              have hK : R = if Lib.hasPrefix y.data.toList [46] = true then dirE k s.data.toList (y.data.toList.drop 1) true else (5, zeroT) := hR5.out
              replace hK := Aside0.mk hK
              have hyz := hz'.out y (by simp)
              have t3 := (blk_cell HT.out.b6 3).trans rfl
              have t4 := (blk_cell HT.out.b6 4).trans rfl
              have u3 := blk_frozen HT.out.b6 3
              have u4 := blk_frozen HT.out.b6 4
              clear y2 hend hR5
              go_wp2_with fail
              refine (Tryd.strings_CutPrefix y ⟨#[46]⟩ _).mono ?_
              rintro e w1 ⟨rfl, rfl⟩
              cases hp : Lib.hasPrefix y.data.toList [46] with
              | false =>
                have hp' : Lib.hasPrefix y.data.toList (⟨#[46]⟩ : ByteArray).data.toList = false := hp
                have hE := Aside0.mk (show R = (5, zeroT) by rw [hK.out, if_neg (by rw [hp]; decide)])
                generalize (⟨(Lib.trimPrefix y.data.toList (⟨#[46]⟩ : ByteArray).data.toList).toArray⟩ : ByteArray) = p2 at *
                have HT2 := Aside0.mk (HT.out.path p2 false)
                have z0 := HT2.out.dw.cell 0; have z1 := HT2.out.dw.cell 1; have z2 := HT2.out.dw.cell 2; have z3 := HT2.out.dw.cell 3; have z4 := HT2.out.dw.cell 4
                have f0 := HT2.out.dw.frozen 0; have f1 := HT2.out.dw.frozen 1; have f2 := HT2.out.dw.frozen 2; have f3 := HT2.out.dw.frozen 3; have f4 := HT2.out.dw.frozen 4
                go_wp2
                refine bodyPost_ret (results_ct rfl _ _ w.heap.size 76 #[.int .i64 0, .int .i64 0, .string ⟨#[]⟩, .string ⟨#[]⟩, .bool false] (0, 0) _ rfl (blk_set5 HT2.out.dw.blk rfl _ _ _ _ _) Tryd.underlying76 rfl size28) rfl ?_
                exact ⟨by rw [hE.out]; rfl, below_set5 HT2.out.dw.bel (Nat.le_refl _) _ _ _ _ _⟩
              | true =>
                have hp' : Lib.hasPrefix y.data.toList (⟨#[46]⟩ : ByteArray).data.toList = true := hp
                have HT2 := Aside0.mk (HT.out.path ⟨(Lib.trimPrefix y.data.toList (⟨#[46]⟩ : ByteArray).data.toList).toArray⟩ true)
                have hE := Aside0.mk (show R = dirE k s.data.toList (⟨(Lib.trimPrefix y.data.toList (⟨#[46]⟩ : ByteArray).data.toList).toArray⟩ : ByteArray).data.toList true by rw [hK.out, if_pos hp]; unfold Lib.trimPrefix; rw [if_pos hp]; rfl)
                have htz : (⟨(Lib.trimPrefix y.data.toList (⟨#[46]⟩ : ByteArray).data.toList).toArray⟩ : ByteArray).size ≤ 65536 := by
                  show (Lib.trimPrefix _ _).toArray.size ≤ _
                  rw [List.size_toArray]; unfold Lib.trimPrefix; rw [if_pos hp', List.length_drop, data_length]; omega
                generalize (⟨(Lib.trimPrefix y.data.toList (⟨#[46]⟩ : ByteArray).data.toList).toArray⟩ : ByteArray) = p2 at *
                go_wp2
                go_roundw
                case rel => exact ⟨1, by simp [intOf], by omega, p2, true, htz, HT2.out, fun _ => hE.out⟩
                case measure => simp [intOf]; omega
end Go.Proofs.YtkpnfejfbmandaaDoor.Px
namespace Go.Proofs.YtkpnfejfbmandaaDoor.Px
open Go.RowKit Go.Proofs.YtkpnfejfbmandaaDoorW.PrintWords Go.Proofs.YtkpnfejfbmandaaDoorW.PrintLast Go.Proofs.YtkpnfejfbmandaaDoorW.PrintMore
set_option linter.unusedVariables false
set_option linter.unusedSimpArgs false
end Go.Proofs.YtkpnfejfbmandaaDoor.Px
namespace Go.Proofs.YtkpnfejfbmandaaDoor.Px
open Go.RowKit Go.Proofs.YtkpnfejfbmandaaDoorW.PrintWords Go.Proofs.YtkpnfejfbmandaaDoorW.PrintLast Go.Proofs.YtkpnfejfbmandaaDoorW.PrintMore
set_option linter.unusedVariables false
set_option linter.unusedSimpArgs false
theorem info76 : (Tryd.prog.info? 76).map (fun i => (i.zero, i.size, i.bytes)) = some (some (.agg #[(.int .i64 0), (.int .i64 0), (.string ⟨#[]⟩), (.string ⟨#[]⟩), (.bool false)]), 5, 56) := by kernel_rfl
def preL (l0 : List T5) : Except (Nat × Int) (List T5) → Except (Nat × Int) (List T5)
  | .ok l => .ok (l0 ++ l)
  | .error e => .error e
theorem cut_none {c : UInt8} {s : List UInt8} (h : noPair c s) : Lib.cut s [c, c] = (s, [], false) := by
  unfold Lib.cut; rw [idx_none h]; rfl
theorem cut_at {c : UInt8} {t r : List UInt8} (h : noPair c (t ++ [c])) : Lib.cut (t ++ c :: c :: r) [c, c] = (t, r, true) := by
  unfold Lib.cut
  rw [idx_at r h, if_pos (Int.natCast_nonneg _), Int.toNat_natCast, List.take_left]
  have : (t ++ c :: c :: r).drop (t.length + [c, c].length) = r := by rw [← List.drop_drop, List.drop_left]; rfl
  rw [this]
theorem ex3 {α β γ : Type} (x : α × β × γ) : ∃ a b c, x = (a, b, c) := ⟨x.1, x.2.1, x.2.2, rfl⟩
theorem cut_len {D sep t rs : List UInt8} {more : Bool} (h : Lib.cut D sep = (t, rs, more)) : t.length ≤ D.length := by
  unfold Lib.cut at h
  split at h
  · cases h; rw [List.length_take]; omega
  · cases h; exact Nat.le_refl _
theorem cut_len2 {D sep t rs : List UInt8} {more : Bool} (h : Lib.cut D sep = (t, rs, more)) : rs.length ≤ D.length := by
  unfold Lib.cut at h
  split at h
  · cases h; rw [List.length_drop]; omega
  · cases h; exact Nat.zero_le _
set_option maxRecDepth 100000 in
theorem isSpace_any (x : Nat) (w : World) : Calls Tryd.prog 54 #[.int .i32 x] w fun e w' => e = .returned (.bool (isSp x)) ∧ ∃ q, w' = w.drewN q := by
  go_enter Tryd.func54, Tryd.ntmps54
  go_wp2
  go_ret
  exact ⟨rfl, 0, rfl⟩
theorem space_pred (w : World) : PredAtRunes Tryd.prog 54 #[] isSp w := fun W x _ _ => isSpace_any x W
theorem enters40 : Enters Tryd.prog 54 := enters_of Tryd.func54 (by kernel_rfl) rfl
theorem words_small (s : ByteArray) : ∀ x ∈ Lib.goFieldsP isSp s, x.size ≤ s.size := by
  intro x hx
  unfold Lib.goFieldsP at hx
  obtain ⟨y, _, rfl⟩ := List.mem_map.1 hx
  rw [ByteArray.size_extract]; omega
theorem fieldsFunc_any (s : ByteArray) (w : World) (hs : s.size ≤ 65536) : Calls Tryd.prog 53 #[.string s, .func (.func 54) #[] #[]] w fun e w' => ∃ (ws : List ByteArray) (A : Option Addr), e = .returned (.slice A ws.length ws.length) ∧
    ws.map (·.data.toList) = fieldsG s.data.toList [] ∧ (∀ x ∈ ws, x.size ≤ 65536) ∧ Kd.C Kd.string w' A ws.length ws ∧ Below w.heap.size w w' := by
  refine (Tryd.strings_FieldsFunc_runes 54 #[] (fun args w => enters40 args w) isSp s w (by omega) (space_pred w)).mono ?_
  rintro e w' ⟨A, rfl, _, ho, hb⟩
  have hR : Kd.R Kd.string 9 w' w.heap.size (fun _ => True) (.slice (some ⟨A, 0, none⟩) (Lib.goFieldsP isSp s).length (Lib.goFieldsP isSp s).length) (Lib.goFieldsP isSp s) := Kd.R_of_own ho (fun _ _ => trivial)
  exact ⟨_, _, rfl, fields_is s, fun x hx => Nat.le_trans (words_small s x hx) hs, (Kd.R_reads' hR).2.2, hb⟩
theorem preL_nil (x : Except (Nat × Int) (List T5)) : preL [] x = x := by cases x <;> rfl
theorem preL_pre (a b : List T5) (x : Except (Nat × Int) (List T5)) : preL a (preL b x) = preL (a ++ b) x := by
  cases x with
  | error e => rfl
  | ok l => simp [preL]
def TokRow (w wr : World) (v : Value) (acc : List T5) : Prop := Kd.R k76 76 wr w.heap.size (fun _ => True) v (acc.map tokS) ∧ Below w.heap.size w wr
def LxR (s : ByteArray) (R : List S76 × Int × Int) (w : World) (v5 v6 : Value) (wr : World) : Prop :=
  ∃ (acc : List T5) (p : Nat), v6 = .int .i64 p ∧ p ≤ s.size ∧ acc.length ≤ p ∧ R = lexR s (preL acc (lexS p (s.data.toList.drop p))) ∧ TokRow w wr v5 acc
def LxT (acc : List T5) (p : Nat) (w : World) (v5 v6 : Value) (wr : World) : Prop := v6 = .int .i64 p ∧ TokRow w wr v5 acc
set_option maxHeartbeats 2000000 in
set_option maxRecDepth 100000 in
theorem lex_any (s : ByteArray) (w : World) (hG : Glob w) (hS : Shapes w) :
    Calls Tryd.prog 30 #[.string s] w fun e w' => ∃ v, e = .returned (.tuple #[v, .int .i64 (lexF s).2.1, .int .i64 (lexF s).2.2]) ∧ Kd.R k76 76 w' w.heap.size (fun _ => True) v (lexF s).1 ∧ Below w.heap.size w w' := by
  by_cases hs : (s.size : Int) > 65536
  · have hR : lexF s = ([], 0, 6) := if_pos hs
    rw [hR]
    go_enter Tryd.func30, Tryd.ntmps30
    go_wp2
    go_step3
    go_wp2
    (try rw [Exit.noGoto_ret])
    go_ret3
    exact ⟨_, rfl, Kd.R_nil _ _ _ _ _, Below.refl _ _⟩
  have hR : lexF s = lexR s (lexS 0 s.data.toList) := if_neg hs
  have hz : s.size ≤ 65536 := by omega
  generalize lexF s = R at *
  have H0 : LxR s R w (.slice none 0 0) (.int .i64 0) w := ⟨[], 0, rfl, Nat.zero_le _, Nat.zero_le _, by rw [preL_nil, List.drop_zero]; exact hR, Kd.R_nil _ _ _ _ _, Below.refl _ _⟩
  clear hR
  replace hG := Aside0.mk hG
  replace hS := Aside0.mk hS
  go_enter Tryd.func30, Tryd.ntmps30
  go_wp2
  go_step3
  go_wp2
  go_step3
  go_wp2
  go_loopw [5, 6] (fun v5 v6 wr => LxR s R w v5 v6 wr) (fun _ v6 _ => s.size + 1 - (intOf v6).toNat)
  case atStart => exact H0
  case round =>
    clear H0
    obtain ⟨acc, p, rfl, hp, hacc, hR, HT⟩ := hrel
    obtain ⟨HO, HB⟩ := HT
    replace HO := Aside0.mk HO
    replace HB := Aside0.mk HB
    obtain ⟨m, hm⟩ := (hG.out.below HB.out).mx
    obtain ⟨X, hX⟩ : ∃ X, s.extract p s.size = X := ⟨_, rfl⟩
    have hXd : X.data.toList = s.data.toList.drop p := by rw [← hX]; exact Lib.extract_to_end s p
    have hXz : X.size ≤ 65536 := by rw [← hX, ByteArray.size_extract]; omega
    have hc1 := Tryd.strings_Cut X ⟨#[123, 123]⟩ m wr (by omega) hm
    have hXl : X.size + p = s.size := by rw [← hX, ByteArray.size_extract]; omega
    rw [hXd] at hc1
    have hpi : (p : Int) ≤ (s.size : Int) := by omega
    have hX2 : s.extract (p : Int).toNat s.size = X := by rw [Int.toNat_natCast]; exact hX
    have hDl : (s.data.toList.drop p).length = s.size - p := by rw [List.length_drop, data_length]
    clear hm
    generalize hD : s.data.toList.drop p = D at *
    obtain ⟨t, rs, more, hcE⟩ := ex3 (Lib.cut D (⟨#[123, 123]⟩ : ByteArray).data.toList)
    rw [hcE] at hc1
    have htl : t.length ≤ D.length := cut_len hcE
    have hrl : rs.length ≤ D.length := cut_len2 hcE
    obtain ⟨T, hT⟩ : ∃ T : ByteArray, (⟨t.toArray⟩ : ByteArray) = T := ⟨_, rfl⟩
    have hTd : T.data.toList = t := by rw [← hT]
    have hTz : T.size = t.length := by rw [← hT]; exact List.size_toArray ..
    obtain ⟨RS, hRS⟩ : ∃ RS : ByteArray, (⟨rs.toArray⟩ : ByteArray) = RS := ⟨_, rfl⟩
    have hRd : RS.data.toList = rs := by rw [← hRS]
    have hRz : RS.size ≤ 65536 := by rw [← data_length, hRd]; omega
    rw [hT, hRS] at hc1
    replace hc1 := Aside0.mk hc1
    replace hcE := Aside0.mk hcE
    replace hD := Aside0.mk hD
    replace hT := Aside0.mk hT
    replace hTd := Aside0.mk hTd
    replace hRS := Aside0.mk hRS
    replace hRd := Aside0.mk hRd
    replace hXd := Aside0.mk hXd
    go_wp2_with fail
    refine hc1.out.mono ?_
    rintro e w1 ⟨rfl, nd, rfl⟩
    replace HO := Aside0.mk (Kd.R_drewN HO.out nd)
    replace HB := Aside0.mk (pw_below_drewN HB.out nd)
    generalize wr.drewN nd = w1 at *
    clear hc1 hX2 hXd hX
    go_upto_if 27 with fail
    go_cut [5, 6, 27] (fun v5 v6 _ wc => LxT (acc ++ txtT p t) (p + t.length) w v5 v6 wc)
    case first =>
      by_cases h0 : T.toList = []
      · have e1 : T.toList.isEmpty = true := by simp [h0]
        have ht0 : t = [] := by rw [← hTd.out, ← ByteArray.toList_eq]; exact h0
        simp only [e1, Bool.not_true]
        go_wp2
        go_meet
        case rel => exact ⟨by rw [ht0]; rfl, by rw [ht0]; simp only [txtT, if_true, List.append_nil]; exact HO.out, HB.out⟩
      · have e1 : T.toList.isEmpty = false := by simp [h0]
        have ht0 : ¬ t = [] := by rw [← hTd.out, ← ByteArray.toList_eq]; exact h0
        simp only [e1, Bool.not_false]
        go_wp2_with (at_builtin; go_loud (refine Kd.R_append k76 w.heap.size rfl _ _ 64 76 _ 56 rfl Tryd.underlying64 info76 rfl (by decide) (by decide) u5 (acc.map tokS) ⟨0, p, T, ⟨#[]⟩, false⟩ [.int .i64 0, .int .i64 p, .string T, .string ⟨#[]⟩, .bool false] (fun _ => True) (fun k => some k ≠ u5.ownBlock) rfl rfl (k76_mkM _ _ _ ⟨0, p, T, ⟨#[]⟩, false⟩) (fun k hk => ⟨trivial, hk⟩) (fun _ _ => trivial) HO.out HB.out HB.out.size (by rw [List.length_map]; omega) ?_); intro v1 w5 HO5 HB5 _ _; obtain ⟨A1, c1, rfl⟩ := Kd.R_slice HO5; replace HO5 := Aside0.mk HO5; replace HB5 := Aside0.mk HB5)
        go_meet
        case rel =>
          refine ⟨by simp, ?_, HB5.out⟩
          have h5 := HO5.out
          rw [List.length_append, List.length_singleton, List.length_map] at h5
          have e : (acc ++ txtT p t).map tokS = acc.map tokS ++ [⟨0, p, T, ⟨#[]⟩, false⟩] := by
            rw [List.map_append]; unfold txtT; rw [if_neg ht0, ← hT.out]; rfl
          rw [e]
          exact h5
    case rest =>
      clear HO HB
      obtain ⟨rfl, HO, HB⟩ := hcut
      replace HO := Aside0.mk HO
      replace HB := Aside0.mk HB
      have htx : (txtT p t).length ≤ t.length := by
        unfold txtT
        split
        · simp
        · rename_i h; have := List.length_pos_iff.2 h; simp only [List.length_cons, List.length_nil]; omega
      have hal : (acc ++ txtT p t).length ≤ p + t.length := by rw [List.length_append]; omega
      have hap := Aside0.mk (preL_pre acc (txtT p t))
      generalize ha1 : acc ++ txtT p t = acc1 at *
      replace ha1 := Aside0.mk ha1
      clear htx hacc
      cases way D with
      | text _ hn =>
        have hx := (cut_none hn).symm.trans hcE.out
        simp only [Prod.mk.injEq] at hx
        obtain ⟨rfl, rfl, rfl⟩ := hx
        have hE := Aside0.mk (show R = (acc1.map tokS, (s.size : Int), 0) by rw [hR, lexS_text hn, ← ha1.out]; rfl)
        go_wp2
        (try rw [Exit.noGoto_ret])
        go_ret3
        exact ⟨_, by rw [hE.out]; rfl, by rw [hE.out]; exact HO.out, HB.out⟩
      | open_ t' r hn hr =>
        have hx := (cut_at hn).symm.trans hcE.out
        simp only [Prod.mk.injEq] at hx
        obtain ⟨rfl, rfl, rfl⟩ := hx
        have hE := Aside0.mk (show R = ([], ((p + t'.length : Nat) : Int), 7) by rw [hR, lexS_open hn hr]; rfl)
        obtain ⟨m2, hm2⟩ := (hG.out.below HB.out).mx
        have hc2 := Tryd.strings_Cut RS ⟨#[125, 125]⟩ m2 wc (by omega) hm2
        have hq : Lib.cut r (⟨#[125, 125]⟩ : ByteArray).data.toList = (r, [], false) := cut_none hr
        rw [hRd.out, hq, hRS.out] at hc2
        replace hc2 := Aside0.mk hc2
        clear hq hm2
        go_wp2_with fail
        refine hc2.out.mono ?_
        rintro e w2 ⟨rfl, nd2, rfl⟩
        replace HB := Aside0.mk (pw_below_drewN HB.out nd2)
        go_wp2
        (try rw [Exit.noGoto_ret])
        go_ret3
        exact ⟨_, by rw [hE.out]; rfl, by rw [hE.out]; exact Kd.R_nil _ _ _ _ _, HB.out⟩
      | dir t' u r hn hu =>
        have hx := (cut_at (r := u ++ 125 :: 125 :: r) hn).symm.trans hcE.out
        simp only [Prod.mk.injEq] at hx
        obtain ⟨rfl, rfl, rfl⟩ := hx
        have hul : p + t'.length + u.length + 4 + r.length = s.size := by
          have := hDl
          simp only [List.length_append, List.length_cons] at this
          omega
        have hRd2 := lexS_dir (p := p) (r := r) hn hu
        obtain ⟨m2, hm2⟩ := (hG.out.below HB.out).mx
        have hc2 := Tryd.strings_Cut RS ⟨#[125, 125]⟩ m2 wc (by omega) hm2
        have hq : Lib.cut (u ++ 125 :: 125 :: r) (⟨#[125, 125]⟩ : ByteArray).data.toList = (u, r, true) := cut_at hu
        rw [hRd.out, hq] at hc2
        obtain ⟨U, hU⟩ : ∃ U : ByteArray, (⟨u.toArray⟩ : ByteArray) = U := ⟨_, rfl⟩
        have hUd : U.data.toList = u := by rw [← hU]
        have hUz : U.size = u.length := by rw [← hU]; exact List.size_toArray ..
        rw [hU] at hc2
        replace hc2 := Aside0.mk hc2
        clear hq hm2
        go_wp2_with fail
        refine hc2.out.mono ?_
        rintro e w2 ⟨rfl, nd2, rfl⟩
        replace HO := Aside0.mk (Kd.R_drewN HO.out nd2)
        replace HB := Aside0.mk (pw_below_drewN HB.out nd2)
        generalize wc.drewN nd2 = w2 at *
        clear hc2
        go_wp2_with fail
        refine (fieldsFunc_any U _ (by omega)).mono ?_
        rintro e w3 ⟨ws, A, rfl, hws, hwz, hC, hb⟩
        replace HO := Aside0.mk (Kd.R_below HO.out hb)
        replace HB := Aside0.mk (below_step HB.out hb)
        clear hb
        have hdi := directive_any ws A ws.length w3 (hG.out.below HB.out) (hS.out.below HB.out) hC (Nat.le_refl _) hwz
        rw [hws, hUd] at hdi
        rw [hRd2] at hR
        clear hRd2
        obtain ⟨d1, dk, ds, dp, dh, hd⟩ : ∃ d1 dk ds dp dh, dirF (fieldsG u []) = (d1, dk, ds, dp, dh) := ⟨_, _, _, _, _, rfl⟩
        rw [hd] at hdi hR
        replace hdi := Aside0.mk hdi
        clear hws hwz hC
        go_wp2_with fail
        refine hdi.out.mono ?_
        rintro e w4 ⟨rfl, hb⟩
        replace HO := Aside0.mk (Kd.R_below HO.out hb)
        replace HB := Aside0.mk (below_step HB.out hb)
        clear hb hdi
        unfold tokV
        dsimp only
        by_cases he : d1 = 0
        case neg =>
          have hE := Aside0.mk (show R = ([], ((p + t'.length : Nat) : Int), d1) by rw [hR, if_neg he]; rfl)
          have he' : (d1 != 0) = true := by rw [bne_iff_ne]; exact he
          clear hR
          go_wp2
          (try rw [Exit.noGoto_ret])
          go_ret3
          exact ⟨_, by rw [hE.out]; rfl, by rw [hE.out]; exact Kd.R_nil _ _ _ _ _, below_alloc HB.out _⟩
        subst he
        have hRR := Aside0.mk (show R = lexR s (preL (acc1 ++ [(p + t'.length, dk, ds, dp, dh)]) (lexS (p + t'.length + u.length + 4) (s.data.toList.drop (p + t'.length + u.length + 4)))) by
          have e1 : s.data.toList.drop (p + t'.length + u.length + 4) = r := by
            have e2 : (t' ++ 123 :: 123 :: (u ++ 125 :: 125 :: r)) = (t' ++ [123, 123] ++ u ++ [125, 125]) ++ r := by simp
            rw [show p + t'.length + u.length + 4 = p + (t' ++ [123, 123] ++ u ++ [125, 125]).length by simp; omega, ← List.drop_drop, hD.out, e2, List.drop_left]
          rw [hR, e1, if_pos rfl, ← ha1.out]
          cases lexS (p + t'.length + u.length + 4) r with
          | error e => rfl
          | ok l => simp [preL])
        clear hR
        go_upto_region 17 with fail
        go_wp2_with (at_builtin; refine Kd.R_append k76 w.heap.size rfl _ _ 64 76 _ 56 rfl Tryd.underlying64 info76 rfl (by decide) (by decide) u5 (acc1.map tokS) ⟨dk, (p : Int) + t'.length, ⟨ds.toArray⟩, ⟨dp.toArray⟩, dh⟩ [.int .i64 dk, .int .i64 ((p : Int) + t'.length), .string ⟨ds.toArray⟩, .string ⟨dp.toArray⟩, .bool dh] (fun _ => True) (fun k => some k ≠ u5.ownBlock) rfl (by rw [World.size_alloc]; rfl) (k76_mkM _ _ _ ⟨dk, (p : Int) + t'.length, ⟨ds.toArray⟩, ⟨dp.toArray⟩, dh⟩) (fun k hk => ⟨trivial, hk⟩) (fun _ _ => trivial) (Kd.R_alloc HO.out _) (below_alloc HB.out _) (Nat.le_trans HB.out.size (by simp)) (by rw [List.length_map]; omega) ?_; intro v1 w5 HO5 HB5 _ _; obtain ⟨A1, c1, rfl⟩ := Kd.R_slice HO5; replace HO5 := Aside0.mk HO5; replace HB5 := Aside0.mk HB5)
        go_roundw
        case rel =>
          refine ⟨acc1 ++ [(p + t'.length, dk, ds, dp, dh)], p + t'.length + u.length + 4, ?_, by omega, by rw [List.length_append, List.length_singleton]; omega, hRR.out, ?_, HB5.out⟩
          · simp [hUz]; omega
          · have h5 := HO5.out
            rw [List.length_append, List.length_singleton, List.length_map] at h5
            have e : (acc1 ++ [(p + t'.length, dk, ds, dp, dh)]).map tokS = acc1.map tokS ++ [⟨dk, (p : Int) + t'.length, ⟨ds.toArray⟩, ⟨dp.toArray⟩, dh⟩] := by
              rw [List.map_append]; simp [tokS]
            rw [e]
            exact h5
        case measure => simp [intOf, hUz]; omega
end Go.Proofs.YtkpnfejfbmandaaDoor.Px
namespace Go.Proofs.YtkpnfejfbmandaaDoor.Px
open Go.RowKit Go.Proofs.YtkpnfejfbmandaaDoorW.PrintWords Go.Proofs.YtkpnfejfbmandaaDoorW.PrintLast Go.Proofs.YtkpnfejfbmandaaDoorW.PrintMore
set_option linter.unusedVariables false
set_option linter.unusedSimpArgs false
structure GS (w : World) : Prop where
  g : Glob w
  s : Shapes w
theorem GS.below {w w1 : World} (h : GS w) (hb : Below w.heap.size w w1) : GS w1 := ⟨h.g.below hb, h.s.below hb⟩
def lex_Lex.f (a0 : ByteArray) : Option (List S76 × Int × Int) := some (lexF a0)
theorem lex_Lex.calls (a0 : ByteArray) (r1 : List S76) (r2 r3 : Int) (w : World) (hG_ : GS w) (h : lex_Lex.f a0 = some (r1, r2, r3)) :
    Calls Tryd.prog 30 #[.string a0] w fun e w' => ∃ v0_ : Value, e = .returned (.tuple #[v0_, .int .i64 r2, .int .i64 r3]) ∧ Kd.R k76 76 w' w.heap.size (fun _ => True) v0_ r1 ∧ Below w.heap.size w w' := by
  have h := Option.some.inj h
  have hL := lex_any a0 w hG_.g hG_.s
  rw [h] at hL
  exact hL
end Go.Proofs.YtkpnfejfbmandaaDoor.Px
