import Derived.Test.YtkpnfejfbmandaaDoorRows
import Derived.Test.YtkpnfejfbmandaaDoorPLMd
import Derived.Shelf.Vars
import Derived.Lib.LaidU8
import Derived.ProofKit
import Derived.SizedLaws
import Derived.Deep.DeepHandedRow
import Derived.Deep.DeepWitnessRowRef
/- From the rows' listed variables to what the lexer's contract asks of the world; a world that fits. -/
namespace Go.Proofs.YtkpnfejfbmandaaDoor.Px
open Go.ChangeShapes Go.WideShapes Go.ChangeAt Go.RowKit
set_option linter.unusedVariables false
set_option linter.unusedSimpArgs false
theorem cells4 : Tryd.prog.cellsOf 4 = 1 := by kernel_rfl
theorem cells3 : Tryd.prog.cellsOf 3 = 1 := by kernel_rfl
theorem cells106 : Tryd.prog.cellsOf 155 = 3 := by kernel_rfl
theorem nameShapes : Tryd.prog.globalNamed "tmplpipe/lex.shapes" = some 1 := by kernel_rfl
theorem typeShapes : (Tryd.prog.globals[1]?).map (·.type) = some 156 := by kernel_rfl
set_option maxRecDepth 100000 in
theorem shape_cells {w : World} {fuel : Nat} {cs : List Value} {a : Bool} {b c : Int} {p : List MemPlace}
    (h : DataW.trod (fun _ => ()) Tryd.prog w 0 (fun _ => true) false fuel 155 cs = some (.agg [.lit (.bool a), .lit (.int .i64 b), .lit (.int .i64 c)], p)) : cs = [.bool a, .int .i64 b, .int .i64 c] := by
  obtain ⟨xs, n, rfl, hx, hl, hxl, hall⟩ := DataW.trod_struct Tryd.underlying155 h
  rw [cells106] at hl
  have h0 : DataW.trod (fun _ => ()) Tryd.prog w 0 (fun _ => true) false n 4 ((cs.drop 0).take (Tryd.prog.cellsOf 4)) = xs[0]? := hall 0 _ rfl
  have h1 : DataW.trod (fun _ => ()) Tryd.prog w 0 (fun _ => true) false n 3 ((cs.drop 1).take (Tryd.prog.cellsOf 3)) = xs[1]? := hall 1 _ rfl
  have h2 : DataW.trod (fun _ => ()) Tryd.prog w 0 (fun _ => true) false n 3 ((cs.drop 2).take (Tryd.prog.cellsOf 3)) = xs[2]? := hall 2 _ rfl
  match cs, hl with
  | [c0, c1, c2], _ =>
    match xs, hxl with
    | [x0, x1, x2], _ =>
      simp only [Prod.mk.injEq, List.map_cons, List.map_nil, DataW.agg.injEq, List.cons.injEq, and_true] at hx
      obtain ⟨⟨e0, e1, e2⟩, _⟩ := hx
      rw [cells4] at h0
      rw [cells3] at h1 h2
      obtain ⟨b0, g0, q0⟩ := DataW.trod_bool Tryd.underlying4 (x := x0) h0
      obtain ⟨b1, g1, q1, _⟩ := DataW.trod_int Tryd.underlying3 (x := x1) h1
      obtain ⟨b2, g2, q2, _⟩ := DataW.trod_int Tryd.underlying3 (x := x2) h2
      rw [q0] at e0
      rw [q1] at e1
      rw [q2] at e2
      simp only [DataW.lit.injEq, Lit.bool.injEq, Lit.int.injEq, true_and] at e0 e1 e2
      simp at g0 g1 g2
      rw [g0, g1, g2, e0, e1, e2]
theorem shape_at {W : World} (h : Lib.VarReads Tryd.prog W "tmplpipe/lex.shapes" Rows.laid_tmplpipe_lex_shapes) (i : Nat) (hi : i < 9) (a : Bool) (b c : Int)
    (hd : ∀ ds, (Rows.laid_tmplpipe_lex_shapes : DataW Unit) = .agg ds → ds[i]? = some (.agg [.lit (.bool a), .lit (.int .i64 b), .lit (.int .i64 c)])) :
    W.cell? ⟨1, i * 3, none⟩ = some (.bool a) ∧ W.cell? ⟨1, i * 3 + 1, none⟩ = some (.int .i64 b) ∧ W.cell? ⟨1, i * 3 + 2, none⟩ = some (.int .i64 c) := by
  obtain ⟨g, t, cs, fuel, p, hg, hty, hvar, htr⟩ := h
  obtain rfl := Option.some.inj (nameShapes.symm.trans hg)
  obtain rfl := Option.some.inj (typeShapes.symm.trans hty)
  obtain ⟨fuel', d, q, hdi, he⟩ := Lib.array_elem Tryd.underlying156 htr i hi
  have h1 := hd _ rfl
  obtain rfl := Option.some.inj (hdi.symm.trans h1)
  have hc := shape_cells he
  rw [cells106] at hc
  have e0 := congrArg (·[0]?) hc
  have e1 := congrArg (·[1]?) hc
  have e2 := congrArg (·[2]?) hc
  simp only [List.getElem?_take, List.getElem?_drop] at e0 e1 e2
  refine ⟨?_, ?_, ?_⟩
  · rw [World.var?_cell nameShapes hvar (i * 3), ← Array.getElem?_toList]; simpa using e0
  · rw [World.var?_cell nameShapes hvar (i * 3 + 1), ← Array.getElem?_toList]; simpa using e1
  · rw [World.var?_cell nameShapes hvar (i * 3 + 2), ← Array.getElem?_toList]; simpa using e2
abbrev laidAll : List (String × DataW Unit) := [("unicode/utf8.acceptRanges", Rows.laid_unicode_utf8_acceptRanges), ("tmplpipe/lex.shapes", Rows.laid_tmplpipe_lex_shapes), ("unicode/utf8.first", Rows.laid_unicode_utf8_first)]
theorem size_globals : 2 < Tryd.prog.globals.size := of_decide_eq_true (by kernel_rfl)
theorem gs_of {W : World} (hL : laidMetH Tryd.prog laidAll W) (hS : W.ShapedOpen Tryd.prog) : GS W := by
  have hV := Lib.laidMet.reads (n := "tmplpipe/lex.shapes") hL (.tail _ (.head _))
  have hm := cell_of_shapedOpen_int (g := 2) (t := 3) (zero := #[.int .i64 0]) (k := .i64) hS size_globals (by kernel_rfl) rfl (by kernel_rfl) (by kernel_rfl) Tryd.underlying3
  have all : ∀ k : Int, 1 ≤ k → k ≤ 8 → W.cell? ⟨1, k.toNat * 3, none⟩ = some (.bool (named k)) ∧ W.cell? ⟨1, k.toNat * 3 + 1, none⟩ = some (.int .i64 (leastOf k)) ∧ W.cell? ⟨1, k.toNat * 3 + 2, none⟩ = some (.int .i64 (mostOf k)) := by
    intro k h1 h8
    have hc : k = 1 ∨ k = 2 ∨ k = 3 ∨ k = 4 ∨ k = 5 ∨ k = 6 ∨ k = 7 ∨ k = 8 := by omega
    rcases hc with rfl | rfl | rfl | rfl | rfl | rfl | rfl | rfl
    all_goals exact shape_at hV _ (by decide) _ _ _ (fun ds e => by cases e; rfl)
  exact ⟨⟨hm⟩, ⟨fun k a b => (all k a b).1, fun k a b => (all k a b).2.1, fun k a b => (all k a b).2.2⟩⟩
/-- A world that fits: the settled one, the three listed variables laid. -/
noncomputable def laidWorld (os : Os) : World :=
  let w0 := World.holding Tryd.prog os ⟨#[], #[], []⟩
  let put (h : Array Obj) (g : Nat) (cs : Array Value) : Array Obj := h.modify g fun
    | .cells _ t frozen => .cells cs t frozen
    | o => o
  let sh (n : Bool) (a b : Int) : List Value := [.bool n, .int .i64 a, .int .i64 b]
  let h1 := put w0.heap 1 ((sh false 0 0) ++ (sh false 1 1) ++ (sh false 1 1) ++ (sh false 1 1) ++ (sh true 0 1) ++ (sh false 0 0) ++ (sh true 0 0) ++ (sh false 0 0) ++ (sh false 0 0)).toArray
  let h2 := put h1 3 (Lib.firstTab.map fun z => Value.int .u8 z).toArray
  let h3 := put h2 4 ((List.range 16).flatMap fun i => [Value.int .u8 (Lib.accLo i), Value.int .u8 (Lib.accHi i)]).toArray
  { w0 with heap := h3 }
theorem laid_met (os : Os) (args : Array Value) : laidMet Tryd.prog laidAll ((laidWorld os).forCall (fun _ _ => 0) ⟨#[], args, []⟩).memory :=
  laidMet_of_run' 8 (by kernel_rfl) (by kernel_rfl)
end Go.Proofs.YtkpnfejfbmandaaDoor.Px
