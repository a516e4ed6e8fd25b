import Derived.Test.YtkpnfejfbmandaaDoorRows
import Derived.Test.YtkpnfejfbmandaaDoorCIM5
import Derived.Shelf.Vars
import Derived.Lib.LaidU8
import Derived.ProofKit
import Derived.SizedLaws
import Derived.Deep.DeepHandedRow
import Derived.Deep.DeepWitnessRowRef
import Derived.Test.YtkpnfejfbmandaaDoorCIM2
import Derived.Test.YtkpnfejfbmandaaDoorCIM3
import Derived.WalkLawsBesides
/- From the rows' listed variables to what the lexer's contract asks of the world; a world that fits. -/
namespace Go.Proofs.YtkpnfejfbmandaaDoor.Px
open Go.ChangeShapes Go.WideShapes Go.ChangeAt Go.RowKit
set_option linter.unusedVariables false
set_option linter.unusedSimpArgs false
theorem cells4 : Tryd.prog.cellsOf 4 = 1 := by kernel_rfl
theorem cells3 : Tryd.prog.cellsOf 3 = 1 := by kernel_rfl
theorem cells106 : Tryd.prog.cellsOf 155 = 3 := by kernel_rfl
theorem nameShapes : Tryd.prog.globalNamed "tmplpipe/lex.shapes" = some 1 := by kernel_rfl
theorem typeShapes : (Tryd.prog.globals[1]?).map (·.type) = some 156 := by kernel_rfl
set_option maxRecDepth 100000 in
theorem shape_cells {w : World} {fuel : Nat} {cs : List Value} {a : Bool} {b c : Int} {p : List MemPlace}
    (h : DataW.trod (fun _ => ()) Tryd.prog w 0 (fun _ => true) false fuel 155 cs = some (.agg [.lit (.bool a), .lit (.int .i64 b), .lit (.int .i64 c)], p)) : cs = [.bool a, .int .i64 b, .int .i64 c] := by
  obtain ⟨xs, n, rfl, hx, hl, hxl, hall⟩ := DataW.trod_struct Tryd.underlying155 h
  rw [cells106] at hl
  have h0 : DataW.trod (fun _ => ()) Tryd.prog w 0 (fun _ => true) false n 4 ((cs.drop 0).take (Tryd.prog.cellsOf 4)) = xs[0]? := hall 0 _ rfl
  have h1 : DataW.trod (fun _ => ()) Tryd.prog w 0 (fun _ => true) false n 3 ((cs.drop 1).take (Tryd.prog.cellsOf 3)) = xs[1]? := hall 1 _ rfl
  have h2 : DataW.trod (fun _ => ()) Tryd.prog w 0 (fun _ => true) false n 3 ((cs.drop 2).take (Tryd.prog.cellsOf 3)) = xs[2]? := hall 2 _ rfl
  match cs, hl with
  | [c0, c1, c2], _ =>
    match xs, hxl with
    | [x0, x1, x2], _ =>
      simp only [Prod.mk.injEq, List.map_cons, List.map_nil, DataW.agg.injEq, List.cons.injEq, and_true] at hx
      obtain ⟨⟨e0, e1, e2⟩, _⟩ := hx
      rw [cells4] at h0
      rw [cells3] at h1 h2
      obtain ⟨b0, g0, q0⟩ := DataW.trod_bool Tryd.underlying4 (x := x0) h0
      obtain ⟨b1, g1, q1, _⟩ := DataW.trod_int Tryd.underlying3 (x := x1) h1
      obtain ⟨b2, g2, q2, _⟩ := DataW.trod_int Tryd.underlying3 (x := x2) h2
      rw [q0] at e0
      rw [q1] at e1
      rw [q2] at e2
      simp only [DataW.lit.injEq, Lit.bool.injEq, Lit.int.injEq, true_and] at e0 e1 e2
      simp at g0 g1 g2
      rw [g0, g1, g2, e0, e1, e2]
theorem shape_at {W : World} (h : Lib.VarReads Tryd.prog W "tmplpipe/lex.shapes" Rows.laid_tmplpipe_lex_shapes) (i : Nat) (hi : i < 9) (a : Bool) (b c : Int)
    (hd : ∀ ds, (Rows.laid_tmplpipe_lex_shapes : DataW Unit) = .agg ds → ds[i]? = some (.agg [.lit (.bool a), .lit (.int .i64 b), .lit (.int .i64 c)])) :
    W.cell? ⟨1, i * 3, none⟩ = some (.bool a) ∧ W.cell? ⟨1, i * 3 + 1, none⟩ = some (.int .i64 b) ∧ W.cell? ⟨1, i * 3 + 2, none⟩ = some (.int .i64 c) := by
  obtain ⟨g, t, cs, fuel, p, hg, hty, hvar, htr⟩ := h
  obtain rfl := Option.some.inj (nameShapes.symm.trans hg)
  obtain rfl := Option.some.inj (typeShapes.symm.trans hty)
  obtain ⟨fuel', d, q, hdi, he⟩ := Lib.array_elem Tryd.underlying156 htr i hi
  have h1 := hd _ rfl
  obtain rfl := Option.some.inj (hdi.symm.trans h1)
  have hc := shape_cells he
  rw [cells106] at hc
  have e0 := congrArg (·[0]?) hc
  have e1 := congrArg (·[1]?) hc
  have e2 := congrArg (·[2]?) hc
  simp only [List.getElem?_take, List.getElem?_drop] at e0 e1 e2
  refine ⟨?_, ?_, ?_⟩
  · rw [World.var?_cell nameShapes hvar (i * 3), ← Array.getElem?_toList]; simpa using e0
  · rw [World.var?_cell nameShapes hvar (i * 3 + 1), ← Array.getElem?_toList]; simpa using e1
  · rw [World.var?_cell nameShapes hvar (i * 3 + 2), ← Array.getElem?_toList]; simpa using e2
theorem size_globals : 2 < Tryd.prog.globals.size := of_decide_eq_true (by kernel_rfl)
end Go.Proofs.YtkpnfejfbmandaaDoor.Px
namespace Go.Proofs.YtkpnfejfbmandaaDoor.Px
open Go.RowKit Go.Proofs.YtkpnfejfbmandaaDoorW.PrintWords Go.Proofs.YtkpnfejfbmandaaDoorW.PrintLast Go.Proofs.YtkpnfejfbmandaaDoorW.PrintMore
set_option linter.unusedVariables false
set_option linter.unusedSimpArgs false
structure HS where
  c : Int
  n : ByteArray
  a : ByteArray
  p : ByteArray
def HS.v (s : HS) : Value := .agg #[.int .i64 s.c, .string s.n, .string s.a, .string s.p]
def hz : HS := ⟨0, ⟨#[]⟩, ⟨#[]⟩, ⟨#[]⟩⟩
def hc (c : Int) : HS := ⟨c, ⟨#[]⟩, ⟨#[]⟩, ⟨#[]⟩⟩
def hp (p : ByteArray) : HS := ⟨0, ⟨#[]⟩, ⟨#[]⟩, p⟩
def HS.w (s : HS) (c : Int) : HS := ⟨c, s.n, ⟨#[]⟩, ⟨#[]⟩⟩
def HS.pt (s : HS) (p : ByteArray) : HS := ⟨s.c, s.n, s.a, p⟩
theorem ret88 {fn : Func} {t : Nat} (hfn : fn.results = #[.cell t 88]) {a : Act} {W : World} {g : Nat} {cs : Array Value} {Q : Ending → World → Prop}
    (hp : a.tmps.getD t undef = .pointer (some ⟨g, 0, none⟩)) (hd : a.defers = []) (hs : cs.size = 4) (hg : W.heap[g]? = some (.cells cs 88 (0, 0))) (h : Q (.returned (.agg cs)) W) : bodyPost Tryd.prog fn Q .ret a W := by
  obtain ⟨tm, df⟩ := a
  obtain rfl : df = [] := hd
  exact bodyPost_ret (results_cell_row hfn _ _ g 88 cs (0, 0) _ hp hg Tryd.underlying88 rfl (by rw [show (Tryd.prog.info? 88).map (·.size) = some 4 from by kernel_rfl, hs])) rfl h
theorem blk_n1 (w : World) (o1 o2 : Obj) : ((w.alloc o1).alloc o2).heap[w.heap.size + 1]? = some o2 := by
  have := blk_new (w.alloc o1) o2
  rwa [World.size_alloc] at this
theorem blk_put4 {w : World} {g t : Nat} {cs : Array Value} (h : w.heap[g]? = some (.cells cs t (0, 0))) (hs : cs.size = 4) (a b c d : Value) :
    ((((w.setCell ⟨g, 0, none⟩ a).setCell ⟨g, 1, none⟩ b).setCell ⟨g, 2, none⟩ c).setCell ⟨g, 3, none⟩ d).heap[g]? = some (.cells #[a, b, c, d] t (0, 0)) := by
  rw [blk_set (blk_set (blk_set (blk_set h 0 a) 1 b) 2 c) 3 d]
  obtain ⟨l⟩ := cs
  match l, hs with
  | [x0, x1, x2, x3], _ => rfl
def letF (c : Int) : Bool := (decide (97 ≤ c) && decide (c ≤ 122)) || (decide (65 ≤ c) && decide (c ≤ 90))
set_option maxRecDepth 100000 in
theorem letter_any (c : Int) (w : World) : Calls Tryd.prog 111 #[.int .u8 c] w fun e w' => e = .returned (.bool (letF c)) ∧ w' = w := by
  unfold letF
  by_cases h1 : 97 ≤ c <;> by_cases h2 : c ≤ 122 <;> by_cases h3 : 65 ≤ c <;> by_cases h4 : c ≤ 90 <;> try omega
  all_goals
    (go_enter Tryd.func111, Tryd.ntmps111
     go_wp2
     go_ret
     exact ⟨by simp [h1, h2, h3, h4], rfl⟩)
def b1 (x : Int) : ByteArray := strOfNums [x]
theorem b1_size (x : Int) : (b1 x).size = 1 := rfl
set_option maxRecDepth 100000 in
theorem conv1 (w : World) (x : Int) : (convert 54 9 (Value.slice (some ⟨w.heap.size, 0, none⟩) 1 1)).run Tryd.prog (w.alloc (.cells #[.int .u8 x] 5)) = .ok (.string (b1 x)) (w.alloc (.cells #[.int .u8 x] 5)) :=
  own_string Tryd.underlying54 Tryd.underlying5 Tryd.underlying9 (own_lit w 0 5 .u8 [x] (Nat.zero_le _) (by simp))
set_option maxRecDepth 100000 in
theorem conv3 (w : World) (A B : Obj) (x : Int) : (convert 54 9 (Value.slice (some ⟨w.heap.size + 1 + 1, 0, none⟩) 1 1)).run Tryd.prog (((w.alloc A).alloc B).alloc (.cells #[.int .u8 x] 5)) = .ok (.string (b1 x)) (((w.alloc A).alloc B).alloc (.cells #[.int .u8 x] 5)) := by
  have := conv1 ((w.alloc A).alloc B) x
  rwa [World.size_alloc, World.size_alloc] at this
def lowF (c : Int) : ByteArray := b1 (if 65 ≤ c ∧ c ≤ 90 then c + 32 else c)
theorem lowF_size (c : Int) : (lowF c).size = 1 := rfl
set_option maxRecDepth 100000 in
theorem lower_any (c : Int) (h0 : 0 ≤ c) (h9 : c ≤ 255) (w : World) : Calls Tryd.prog 112 #[.int .u8 c] w fun e w' => e = .returned (.string (lowF c)) ∧ ∃ o, w' = w.alloc o := by
  unfold lowF
  have hcv := conv1
  by_cases h1 : 65 ≤ c <;> by_cases h2 : c ≤ 90 <;> try omega
  all_goals
    (go_enter Tryd.func112, Tryd.ntmps112
     go_wp2
     go_ret
     exact ⟨by simp [h1, h2], _, rfl⟩)
set_option maxRecDepth 100000 in
theorem with_any (s : HS) (c : Int) (w : World) : Calls Tryd.prog 114 #[.agg #[.int .i64 s.c, .string s.n, .string s.a, .string s.p], .int .i64 c] w fun e w' => e = .returned (.agg #[.int .i64 c, .string s.n, .string ⟨#[]⟩, .string ⟨#[]⟩]) ∧ ∃ o1 o2, w' = (w.alloc o1).alloc o2 := by
  go_enter Tryd.func114, Tryd.ntmps114
  go_wp2
  exact ret88 rfl rfl rfl rfl (blk_n1 _ _ _) ⟨rfl, _, _, rfl⟩
set_option maxRecDepth 100000 in
theorem part_any (s : HS) (p : ByteArray) (w : World) : Calls Tryd.prog 113 #[.agg #[.int .i64 s.c, .string s.n, .string s.a, .string s.p], .string p] w fun e w' => e = .returned (.agg #[.int .i64 s.c, .string s.n, .string s.a, .string p]) ∧ ∃ o1 o2, w' = (w.alloc o1).alloc o2 := by
  go_enter Tryd.func113, Tryd.ntmps113
  go_wp2
  exact ret88 rfl rfl rfl rfl (blk_n1 _ _ _) ⟨rfl, _, _, rfl⟩
def openF (n : ByteArray) : HS := if n.toList == [115, 99, 114, 105, 112, 116] then hc 16 else if n.toList == [115, 116, 121, 108, 101] then hc 19 else hz
theorem two_no {l a b : List UInt8} (h1 : (l == a) = true) (h2 : (l == b) = true) (h : a ≠ b) : False := h ((eq_of_beq h1).symm.trans (eq_of_beq h2))
set_option maxRecDepth 100000 in
theorem open_any (s : HS) (w : World) : Calls Tryd.prog 115 #[.agg #[.int .i64 s.c, .string s.n, .string s.a, .string s.p]] w fun e w' => e = .returned (.agg #[.int .i64 (openF s.n).c, .string (openF s.n).n, .string (openF s.n).a, .string (openF s.n).p]) ∧ ∃ o1 o2, w' = (w.alloc o1).alloc o2 := by
  unfold openF
  cases h1 : (s.n.toList == [115, 99, 114, 105, 112, 116]) <;> cases h2 : (s.n.toList == [115, 116, 121, 108, 101]) <;> try exact (two_no h1 h2 (by decide)).elim
  all_goals
    (go_enter Tryd.func115, Tryd.ntmps115
     go_wp2
     exact ret88 rfl rfl rfl rfl (blk_n1 _ _ _) ⟨by simp [hz, hc], _, _, rfl⟩)
def spF (c : Int) : Bool := c == 32 || c == 9 || c == 10 || c == 12 || c == 13
theorem sp_idx : ∀ n : Nat, n < 256 → decide (0 ≤ Lib.indexByte [32, 9, 10, 12, 13] n.toUInt8) = spF n := by decide +kernel
set_option maxRecDepth 100000 in
theorem space_any (c : Int) (h0 : 0 ≤ c) (h9 : c ≤ 255) (w : World) : Calls Tryd.prog 118 #[.int .u8 c] w fun e w' => e = .returned (.bool (spF c)) ∧ w' = w := by
  have h := sp_idx c.toNat (by omega)
  rw [Int.toNat_of_nonneg h0] at h
  go_enter Tryd.func118, Tryd.ntmps118
  go_wp2_with (go_at_call 123; refine (Tryd.strings_IndexByte ⟨#[32, 9, 10, 12, 13]⟩ c _).mono ?_; rintro e w1 ⟨rfl, rfl⟩)
  go_ret
  exact ⟨by rw [← h]; rfl, rfl⟩
def addF (n : ByteArray) (c : Int) : ByteArray := if (n.size : Int) == 16 then n else n ++ lowF c
set_option maxRecDepth 100000 in
theorem add_full (n : ByteArray) (c : Int) (hn : ((n.size : Int) == 16) = true) (w : World) : Calls Tryd.prog 122 #[.string n, .int .u8 c] w fun e w' => e = .returned (.string (addF n c)) ∧ w' = w := by
  unfold addF
  go_enter Tryd.func122, Tryd.ntmps122
  go_wp2
  go_ret
  exact ⟨by simp [hn], rfl⟩
set_option maxRecDepth 100000 in
theorem add_more (n : ByteArray) (c : Int) (h0 : 0 ≤ c) (h9 : c ≤ 255) (hs : n.size < 1000000) (hn : ((n.size : Int) == 16) = false) (w : World) : Calls Tryd.prog 122 #[.string n, .int .u8 c] w fun e w' => e = .returned (.string (addF n c)) ∧ ∃ o, w' = w.alloc o := by
  unfold addF
  have hcs : n.size + (lowF c).size ≤ 9223372036854775807 := by rw [lowF_size]; omega
  go_enter Tryd.func122, Tryd.ntmps122
  go_wp2_with (go_at_call 112; refine (lower_any c h0 h9 _).mono ?_; rintro e w2 ⟨rfl, o, rfl⟩)
  go_ret
  exact ⟨by simp [hn], _, rfl⟩
end Go.Proofs.YtkpnfejfbmandaaDoor.Px
namespace Go.Proofs.YtkpnfejfbmandaaDoor.Px
open Go.RowKit Go.Proofs.YtkpnfejfbmandaaDoorW.PrintWords Go.Proofs.YtkpnfejfbmandaaDoorW.PrintLast Go.Proofs.YtkpnfejfbmandaaDoorW.PrintMore
set_option linter.unusedVariables false
set_option linter.unusedSimpArgs false
def textT (c : Int) : HS := if c == 60 then hp ⟨#[60]⟩ else hz
def textF (s : HS) (c : Int) : HS :=
  if s.p.toList == [60] then (if letF c then ⟨2, lowF c, ⟨#[]⟩, ⟨#[]⟩⟩ else if c == 47 then hp (s.p ++ b1 c) else if c == 33 then hp (s.p ++ b1 c) else textT c)
  else if s.p.toList == [60, 33] then (if c == 45 then hp (s.p ++ b1 c) else if c == 62 then hz else hc 14)
  else if s.p.toList == [60, 47] then (if letF c then hc 15 else textT c)
  else if s.p.toList == [60, 33, 45] then (if c == 45 then hc 13 else if c == 62 then hz else hc 14)
  else textT c
set_option maxHeartbeats 8000000 in
set_option maxRecDepth 100000 in
theorem text_any (s : HS) (c : Int) (h0 : 0 ≤ c) (h9 : c ≤ 255) (hs : s.p.size < 1000000) (w : World) : Calls Tryd.prog 102 #[.agg #[.int .i64 s.c, .string s.n, .string s.a, .string s.p], .int .u8 c] w fun e w' => e = .returned (.agg #[.int .i64 (textF s c).c, .string (textF s c).n, .string (textF s c).a, .string (textF s c).p]) ∧ Below w.heap.size w w' := by
  obtain ⟨r, hr⟩ : ∃ r, r = Value.agg #[.int .i64 (textF s c).c, .string (textF s c).n, .string (textF s c).a, .string (textF s c).p] := ⟨_, rfl⟩
  rw [← hr]
  replace hr := Aside0.mk hr
  have hcv := conv3 w
  have hcs : s.p.size + (b1 c).size ≤ 9223372036854775807 := by rw [b1_size]; omega
  cases p1 : (s.p.toList == [60])
  · cases p2 : (s.p.toList == [60, 33])
    · cases p3 : (s.p.toList == [60, 47])
      · cases p4 : (s.p.toList == [60, 33, 45])
        · cases c60 : (c == 60)
          · go_enter Tryd.func102, Tryd.ntmps102
            go_wp2_with (first | (go_at_call 111; refine (letter_any _ _).mono ?_; rintro e w1 ⟨rfl, rfl⟩) | (go_at_call 112; refine (lower_any _ h0 h9 _).mono ?_; rintro e w2 ⟨rfl, o, rfl⟩))
            exact ret88 rfl rfl rfl rfl (by repeat (first | exact blk_n1 _ _ _ | refine blk_alloc ?_ _)) ⟨by rw [hr.out]; simp [textF, textT, hp, hc, hz, *], by repeat (first | exact Below.refl _ _ | apply below_alloc)⟩
          · obtain rfl : c = 60 := eq_of_beq c60
            go_enter Tryd.func102, Tryd.ntmps102
            go_wp2_with (first | (go_at_call 111; refine (letter_any _ _).mono ?_; rintro e w1 ⟨rfl, rfl⟩) | (go_at_call 112; refine (lower_any _ h0 h9 _).mono ?_; rintro e w2 ⟨rfl, o, rfl⟩))
            exact ret88 rfl rfl rfl rfl (by repeat (first | exact blk_n1 _ _ _ | refine blk_alloc ?_ _)) ⟨by rw [hr.out]; simp [textF, textT, hp, hc, hz, *], by repeat (first | exact Below.refl _ _ | apply below_alloc)⟩
        · cases c45 : (c == 45)
          · cases c62 : (c == 62)
            · go_enter Tryd.func102, Tryd.ntmps102
              go_wp2_with (first | (go_at_call 111; refine (letter_any _ _).mono ?_; rintro e w1 ⟨rfl, rfl⟩) | (go_at_call 112; refine (lower_any _ h0 h9 _).mono ?_; rintro e w2 ⟨rfl, o, rfl⟩))
              exact ret88 rfl rfl rfl rfl (by repeat (first | exact blk_n1 _ _ _ | refine blk_alloc ?_ _)) ⟨by rw [hr.out]; simp [textF, textT, hp, hc, hz, *], by repeat (first | exact Below.refl _ _ | apply below_alloc)⟩
            · obtain rfl : c = 62 := eq_of_beq c62
              go_enter Tryd.func102, Tryd.ntmps102
              go_wp2_with (first | (go_at_call 111; refine (letter_any _ _).mono ?_; rintro e w1 ⟨rfl, rfl⟩) | (go_at_call 112; refine (lower_any _ h0 h9 _).mono ?_; rintro e w2 ⟨rfl, o, rfl⟩))
              exact ret88 rfl rfl rfl rfl (by repeat (first | exact blk_n1 _ _ _ | refine blk_alloc ?_ _)) ⟨by rw [hr.out]; simp [textF, textT, hp, hc, hz, *], by repeat (first | exact Below.refl _ _ | apply below_alloc)⟩
          · obtain rfl : c = 45 := eq_of_beq c45
            go_enter Tryd.func102, Tryd.ntmps102
            go_wp2_with (first | (go_at_call 111; refine (letter_any _ _).mono ?_; rintro e w1 ⟨rfl, rfl⟩) | (go_at_call 112; refine (lower_any _ h0 h9 _).mono ?_; rintro e w2 ⟨rfl, o, rfl⟩))
            exact ret88 rfl rfl rfl rfl (by repeat (first | exact blk_n1 _ _ _ | refine blk_alloc ?_ _)) ⟨by rw [hr.out]; simp [textF, textT, hp, hc, hz, *], by repeat (first | exact Below.refl _ _ | apply below_alloc)⟩
      · have p4 : (s.p.toList == [60, 33, 45]) = false := by rw [eq_of_beq p3]; rfl
        cases hl : (letF c)
        · cases c60 : (c == 60)
          · go_enter Tryd.func102, Tryd.ntmps102
            go_wp2_with (first | (go_at_call 111; refine (letter_any _ _).mono ?_; rintro e w1 ⟨rfl, rfl⟩) | (go_at_call 112; refine (lower_any _ h0 h9 _).mono ?_; rintro e w2 ⟨rfl, o, rfl⟩))
            exact ret88 rfl rfl rfl rfl (by repeat (first | exact blk_n1 _ _ _ | refine blk_alloc ?_ _)) ⟨by rw [hr.out]; simp [textF, textT, hp, hc, hz, *], by repeat (first | exact Below.refl _ _ | apply below_alloc)⟩
          · obtain rfl : c = 60 := eq_of_beq c60
            go_enter Tryd.func102, Tryd.ntmps102
            go_wp2_with (first | (go_at_call 111; refine (letter_any _ _).mono ?_; rintro e w1 ⟨rfl, rfl⟩) | (go_at_call 112; refine (lower_any _ h0 h9 _).mono ?_; rintro e w2 ⟨rfl, o, rfl⟩))
            exact ret88 rfl rfl rfl rfl (by repeat (first | exact blk_n1 _ _ _ | refine blk_alloc ?_ _)) ⟨by rw [hr.out]; simp [textF, textT, hp, hc, hz, *], by repeat (first | exact Below.refl _ _ | apply below_alloc)⟩
        · go_enter Tryd.func102, Tryd.ntmps102
          go_wp2_with (first | (go_at_call 111; refine (letter_any _ _).mono ?_; rintro e w1 ⟨rfl, rfl⟩) | (go_at_call 112; refine (lower_any _ h0 h9 _).mono ?_; rintro e w2 ⟨rfl, o, rfl⟩))
          exact ret88 rfl rfl rfl rfl (by repeat (first | exact blk_n1 _ _ _ | refine blk_alloc ?_ _)) ⟨by rw [hr.out]; simp [textF, textT, hp, hc, hz, *], by repeat (first | exact Below.refl _ _ | apply below_alloc)⟩
    · have p3 : (s.p.toList == [60, 47]) = false := by rw [eq_of_beq p2]; rfl
      have p4 : (s.p.toList == [60, 33, 45]) = false := by rw [eq_of_beq p2]; rfl
      cases c45 : (c == 45)
      · cases c62 : (c == 62)
        · go_enter Tryd.func102, Tryd.ntmps102
          go_wp2_with (first | (go_at_call 111; refine (letter_any _ _).mono ?_; rintro e w1 ⟨rfl, rfl⟩) | (go_at_call 112; refine (lower_any _ h0 h9 _).mono ?_; rintro e w2 ⟨rfl, o, rfl⟩))
          exact ret88 rfl rfl rfl rfl (by repeat (first | exact blk_n1 _ _ _ | refine blk_alloc ?_ _)) ⟨by rw [hr.out]; simp [textF, textT, hp, hc, hz, *], by repeat (first | exact Below.refl _ _ | apply below_alloc)⟩
        · obtain rfl : c = 62 := eq_of_beq c62
          go_enter Tryd.func102, Tryd.ntmps102
          go_wp2_with (first | (go_at_call 111; refine (letter_any _ _).mono ?_; rintro e w1 ⟨rfl, rfl⟩) | (go_at_call 112; refine (lower_any _ h0 h9 _).mono ?_; rintro e w2 ⟨rfl, o, rfl⟩))
          exact ret88 rfl rfl rfl rfl (by repeat (first | exact blk_n1 _ _ _ | refine blk_alloc ?_ _)) ⟨by rw [hr.out]; simp [textF, textT, hp, hc, hz, *], by repeat (first | exact Below.refl _ _ | apply below_alloc)⟩
      · obtain rfl : c = 45 := eq_of_beq c45
        go_enter Tryd.func102, Tryd.ntmps102
        go_wp2_with (first | (go_at_call 111; refine (letter_any _ _).mono ?_; rintro e w1 ⟨rfl, rfl⟩) | (go_at_call 112; refine (lower_any _ h0 h9 _).mono ?_; rintro e w2 ⟨rfl, o, rfl⟩))
        exact ret88 rfl rfl rfl rfl (by repeat (first | exact blk_n1 _ _ _ | refine blk_alloc ?_ _)) ⟨by rw [hr.out]; simp [textF, textT, hp, hc, hz, *], by repeat (first | exact Below.refl _ _ | apply below_alloc)⟩
  · have p2 : (s.p.toList == [60, 33]) = false := by rw [eq_of_beq p1]; rfl
    have p3 : (s.p.toList == [60, 47]) = false := by rw [eq_of_beq p1]; rfl
    have p4 : (s.p.toList == [60, 33, 45]) = false := by rw [eq_of_beq p1]; rfl
    cases hl : (letF c)
    · cases c47 : (c == 47)
      · cases c33 : (c == 33)
        · cases c60 : (c == 60)
          · go_enter Tryd.func102, Tryd.ntmps102
            go_wp2_with (first | (go_at_call 111; refine (letter_any _ _).mono ?_; rintro e w1 ⟨rfl, rfl⟩) | (go_at_call 112; refine (lower_any _ h0 h9 _).mono ?_; rintro e w2 ⟨rfl, o, rfl⟩))
            exact ret88 rfl rfl rfl rfl (by repeat (first | exact blk_n1 _ _ _ | refine blk_alloc ?_ _)) ⟨by rw [hr.out]; simp [textF, textT, hp, hc, hz, *], by repeat (first | exact Below.refl _ _ | apply below_alloc)⟩
          · obtain rfl : c = 60 := eq_of_beq c60
            go_enter Tryd.func102, Tryd.ntmps102
            go_wp2_with (first | (go_at_call 111; refine (letter_any _ _).mono ?_; rintro e w1 ⟨rfl, rfl⟩) | (go_at_call 112; refine (lower_any _ h0 h9 _).mono ?_; rintro e w2 ⟨rfl, o, rfl⟩))
            exact ret88 rfl rfl rfl rfl (by repeat (first | exact blk_n1 _ _ _ | refine blk_alloc ?_ _)) ⟨by rw [hr.out]; simp [textF, textT, hp, hc, hz, *], by repeat (first | exact Below.refl _ _ | apply below_alloc)⟩
        · obtain rfl : c = 33 := eq_of_beq c33
          go_enter Tryd.func102, Tryd.ntmps102
          go_wp2_with (first | (go_at_call 111; refine (letter_any _ _).mono ?_; rintro e w1 ⟨rfl, rfl⟩) | (go_at_call 112; refine (lower_any _ h0 h9 _).mono ?_; rintro e w2 ⟨rfl, o, rfl⟩))
          exact ret88 rfl rfl rfl rfl (by repeat (first | exact blk_n1 _ _ _ | refine blk_alloc ?_ _)) ⟨by rw [hr.out]; simp [textF, textT, hp, hc, hz, *], by repeat (first | exact Below.refl _ _ | apply below_alloc)⟩
      · obtain rfl : c = 47 := eq_of_beq c47
        go_enter Tryd.func102, Tryd.ntmps102
        go_wp2_with (first | (go_at_call 111; refine (letter_any _ _).mono ?_; rintro e w1 ⟨rfl, rfl⟩) | (go_at_call 112; refine (lower_any _ h0 h9 _).mono ?_; rintro e w2 ⟨rfl, o, rfl⟩))
        exact ret88 rfl rfl rfl rfl (by repeat (first | exact blk_n1 _ _ _ | refine blk_alloc ?_ _)) ⟨by rw [hr.out]; simp [textF, textT, hp, hc, hz, *], by repeat (first | exact Below.refl _ _ | apply below_alloc)⟩
    · go_enter Tryd.func102, Tryd.ntmps102
      go_wp2_with (first | (go_at_call 111; refine (letter_any _ _).mono ?_; rintro e w1 ⟨rfl, rfl⟩) | (go_at_call 112; refine (lower_any _ h0 h9 _).mono ?_; rintro e w2 ⟨rfl, o, rfl⟩))
      exact ret88 rfl rfl rfl rfl (by repeat (first | exact blk_n1 _ _ _ | refine blk_alloc ?_ _)) ⟨by rw [hr.out]; simp [textF, textT, hp, hc, hz, *], by repeat (first | exact Below.refl _ _ | apply below_alloc)⟩
def commF (s : HS) (c : Int) : HS :=
  if (s.p.toList == [45, 45] && c == 62) = true then hz else if c == 45 then (if decide ((s.p.size : Int) < 2) then s.pt (s.p ++ ⟨#[45]⟩) else s) else s.pt ⟨#[]⟩
set_option maxHeartbeats 8000000 in
set_option maxRecDepth 100000 in
theorem comment_any (s : HS) (c : Int) (hs : s.p.size < 1000000) (w : World) : Calls Tryd.prog 103 #[.agg #[.int .i64 s.c, .string s.n, .string s.a, .string s.p], .int .u8 c] w fun e w' => e = .returned (.agg #[.int .i64 (commF s c).c, .string (commF s c).n, .string (commF s c).a, .string (commF s c).p]) ∧ Below w.heap.size w w' := by
  obtain ⟨r, hr⟩ : ∃ r, r = Value.agg #[.int .i64 (commF s c).c, .string (commF s c).n, .string (commF s c).a, .string (commF s c).p] := ⟨_, rfl⟩
  rw [← hr]
  replace hr := Aside0.mk hr
  have hcs : s.p.size + 1 ≤ 9223372036854775807 := by omega
  cases p1 : (s.p.toList == [45, 45])
  · cases c45 : (c == 45)
    · go_enter Tryd.func103, Tryd.ntmps103
      go_wp2_with (go_at_call 113; refine (part_any s _ _).mono ?_; rintro e w1 ⟨rfl, o1, o2, rfl⟩)
      exact ret88 rfl rfl rfl rfl (by repeat (first | exact blk_n1 _ _ _ | refine blk_alloc ?_ _)) ⟨by rw [hr.out]; simp [commF, HS.pt, hz, *], by repeat (first | exact Below.refl _ _ | apply below_alloc)⟩
    · obtain rfl : c = 45 := eq_of_beq c45
      cases l : (decide ((s.p.size : Int) < 2))
      · go_enter Tryd.func103, Tryd.ntmps103
        go_wp2_with (go_at_call 113; refine (part_any s _ _).mono ?_; rintro e w1 ⟨rfl, o1, o2, rfl⟩)
        exact ret88 rfl rfl rfl rfl (by repeat (first | exact blk_n1 _ _ _ | refine blk_alloc ?_ _)) ⟨by rw [hr.out]; simp [commF, HS.pt, hz, *], by repeat (first | exact Below.refl _ _ | apply below_alloc)⟩
      · go_enter Tryd.func103, Tryd.ntmps103
        go_wp2_with (go_at_call 113; refine (part_any s _ _).mono ?_; rintro e w1 ⟨rfl, o1, o2, rfl⟩)
        exact ret88 rfl rfl rfl rfl (by repeat (first | exact blk_n1 _ _ _ | refine blk_alloc ?_ _)) ⟨by rw [hr.out]; simp [commF, HS.pt, hz, *], by repeat (first | exact Below.refl _ _ | apply below_alloc)⟩
  · cases c62 : (c == 62)
    · cases c45 : (c == 45)
      · go_enter Tryd.func103, Tryd.ntmps103
        go_wp2_with (go_at_call 113; refine (part_any s _ _).mono ?_; rintro e w1 ⟨rfl, o1, o2, rfl⟩)
        exact ret88 rfl rfl rfl rfl (by repeat (first | exact blk_n1 _ _ _ | refine blk_alloc ?_ _)) ⟨by rw [hr.out]; simp [commF, HS.pt, hz, *], by repeat (first | exact Below.refl _ _ | apply below_alloc)⟩
      · obtain rfl : c = 45 := eq_of_beq c45
        cases l : (decide ((s.p.size : Int) < 2))
        · go_enter Tryd.func103, Tryd.ntmps103
          go_wp2_with (go_at_call 113; refine (part_any s _ _).mono ?_; rintro e w1 ⟨rfl, o1, o2, rfl⟩)
          exact ret88 rfl rfl rfl rfl (by repeat (first | exact blk_n1 _ _ _ | refine blk_alloc ?_ _)) ⟨by rw [hr.out]; simp [commF, HS.pt, hz, *], by repeat (first | exact Below.refl _ _ | apply below_alloc)⟩
        · go_enter Tryd.func103, Tryd.ntmps103
          go_wp2_with (go_at_call 113; refine (part_any s _ _).mono ?_; rintro e w1 ⟨rfl, o1, o2, rfl⟩)
          exact ret88 rfl rfl rfl rfl (by repeat (first | exact blk_n1 _ _ _ | refine blk_alloc ?_ _)) ⟨by rw [hr.out]; simp [commF, HS.pt, hz, *], by repeat (first | exact Below.refl _ _ | apply below_alloc)⟩
    · obtain rfl : c = 62 := eq_of_beq c62
      go_enter Tryd.func103, Tryd.ntmps103
      go_wp2_with (go_at_call 113; refine (part_any s _ _).mono ?_; rintro e w1 ⟨rfl, o1, o2, rfl⟩)
      exact ret88 rfl rfl rfl rfl (by repeat (first | exact blk_n1 _ _ _ | refine blk_alloc ?_ _)) ⟨by rw [hr.out]; simp [commF, HS.pt, hz, *], by repeat (first | exact Below.refl _ _ | apply below_alloc)⟩
end Go.Proofs.YtkpnfejfbmandaaDoor.Px
