import Derived.Test.YtkpnfejfbmandaaDoorCIM2
import Derived.Maps.RangeWalk
import Derived.Lib.FieldsP
import Derived.Lib.Split
import Derived.Lib.IndexMore
import Derived.Lib.DecodeN
import Derived.Shelf.Strings.Builder1
import Derived.Shelf.Strings.Builder2
import Derived.Shelf.Strings.OnBuilder
import Derived.Shelf.Small.Strs
import Derived.Shelf.Small.Wraps
import Derived.Shelf.Strings.BuilderF
import Derived.Shelf.Strings.BuilderK
import Derived.Shelf.Utf8.RuneCount
import Derived.Shelf.Strings.Builder2Cap
import Derived.Shelf.Strings.Search1
import Derived.Shelf.Strings.Search2
import Derived.Shelf.Strings.Search3
import Derived.Shelf.Strings.Cut
import Derived.Shelf.Strings.Count
import Derived.Shelf.LaysM
import Derived.Shelf.Strings.Shaped
import Derived.Shelf.Strings.Prefix
import Derived.Shelf.Strings.Split
import Derived.Shelf.Strings.SplitShaped
import Derived.Shelf.Unicode.Decode
import Derived.Shelf.Strings.RuneCount
import Derived.Shelf.Strings.Explode
import Derived.Shelf.Bits.Mul64
import Derived.Shelf.Strings.Repeat
import Derived.Shelf.Unicode.DecodeSlow
import Derived.Shelf.Unicode.DecodeAny
import Derived.Shelf.Strings.FieldsFuncAny
import Derived.Shelf.Strings.FieldsFuncGrows
import Derived.Shelf.Strings.BuilderCap
import Derived.Test.YtkpnfejfbmandaaDoorProg
/- Merged texts: U Kw La Lc. -/
namespace Go.Proofs.YtkpnfejfbmandaaDoor.Px
open Go.RowKit Go.Proofs.YtkpnfejfbmandaaDoorW.PrintWords Go.Proofs.YtkpnfejfbmandaaDoorW.PrintLast Go.Proofs.YtkpnfejfbmandaaDoorW.PrintMore
set_option linter.unusedVariables false
set_option linter.unusedSimpArgs false
structure Stp (w0 w : World) (g t : Nat) (cs : Array Value) (W : World) : Prop where
  blk : W.heap[g]? = some (.cells cs t (0, 0))
  keep : KeepBut w W g none
  bel : Below w0.heap.size w0 W
  ge : w0.heap.size ≤ g
  le : w0.heap.size ≤ w.heap.size
theorem blk_new' {w : World} {o : Obj} {k : Nat} (h : w.heap.size = k) : (w.alloc o).heap[k]? = some o := h ▸ blk_new w o
theorem blk_set8 {w : World} {g t : Nat} {cs : Array Value} (h : w.heap[g]? = some (.cells cs t (0, 0))) (hs : cs.size = 8) (a b c d e f p q : Value) :
    ((((((((w.setCell ⟨g, 0, none⟩ a).setCell ⟨g, 1, none⟩ b).setCell ⟨g, 2, none⟩ c).setCell ⟨g, 3, none⟩ d).setCell ⟨g, 4, none⟩ e).setCell ⟨g, 5, none⟩ f).setCell ⟨g, 6, none⟩ p).setCell ⟨g, 7, none⟩ q).heap[g]? = some (.cells #[a, b, c, d, e, f, p, q] t (0, 0)) := by
  have h8 := blk_set (blk_set (blk_set (blk_set (blk_set (blk_set (blk_set (blk_set h 0 a) 1 b) 2 c) 3 d) 4 e) 5 f) 6 p) 7 q
  refine h8.trans (congrArg (fun x => some (Obj.cells x t (0, 0))) ?_)
  clear h h8
  obtain ⟨l⟩ := cs
  match l, hs with
  | [x0, x1, x2, x3, x4, x5, x6, x7], _ => simp only [List.setIfInBounds_toArray, List.set_cons_zero, List.set_cons_succ]
theorem blk_far' {w : World} {g t : Nat} {cs : Array Value} (h : w.heap[g]? = some (.cells cs t (0, 0))) {k j : Nat} (hp : g ≠ k) (u : Value) : (w.setCell ⟨k, j, none⟩ u).heap[g]? = some (.cells cs t (0, 0)) := blk_far h hp u
namespace Stp
variable {w0 w W : World} {g t : Nat} {cs : Array Value}
theorem start (hb : W.heap[g]? = some (.cells cs t (0, 0))) (hB : Below w0.heap.size w0 W) (hg : w0.heap.size ≤ g) : Stp w0 W g t cs W := ⟨hb, KeepBut.refl _ _ _, hB, hg, hB.size⟩
theorem alloc (h : Stp w0 w g t cs W) (o : Obj) : Stp w0 w g t cs (W.alloc o) := ⟨blk_alloc h.blk o, keep_alloc h.keep o, below_alloc h.bel o, h.ge, h.le⟩
theorem drew (h : Stp w0 w g t cs W) : Stp w0 w g t cs W.drew := ⟨h.blk, keep_drew h.keep, h.bel.drew, h.ge, h.le⟩
theorem drewN (h : Stp w0 w g t cs W) (n : Nat) : Stp w0 w g t cs (W.drewN n) := ⟨h.blk, keep_drewN h.keep n, pw_below_drewN h.bel n, h.ge, h.le⟩
theorem lt (h : Stp w0 w g t cs W) : g < W.heap.size := blk_lt h.blk
theorem size (h : Stp w0 w g t cs W) : w.heap.size ≤ W.heap.size := h.keep.1
theorem far (h : Stp w0 w g t cs W) {p : Addr} (hp : w.heap.size ≤ p.block) (hne : g ≠ p.block) (u : Value) : Stp w0 w g t cs (W.setCell p u) :=
  ⟨blk_far h.blk hne u, keep_far h.keep hp u, h.bel.setCell (Nat.le_trans h.le hp) u, h.ge, h.le⟩
theorem far' (h : Stp w0 w g t cs W) {k j : Nat} (hp : w.heap.size ≤ k) (hne : g ≠ k) (u : Value) : Stp w0 w g t cs (W.setCell ⟨k, j, none⟩ u) := h.far hp hne u
theorem set (h : Stp w0 w g t cs W) (i : Nat) (u : Value) : Stp w0 w g t (cs.setIfInBounds i u) (W.setCell ⟨g, i, none⟩ u) :=
  ⟨blk_set h.blk i u, h.keep.set_ i u, h.bel.setCell h.ge u, h.ge, h.le⟩
theorem grown (h : Stp w0 w g t cs W) {W2 : World} {row : Option Nat} (hg : W.grownBy W2 row) (hr : ∀ k, row = some k → w.heap.size ≤ k) (hgw : g < w.heap.size) : Stp w0 w g t cs W2 :=
  ⟨blk_grown h.blk hg (fun e => by have := hr g e.symm; omega), h.keep.trans (KeepBut.of_grown hg g) (by
    cases row with
    | none => exact .inl rfl
    | some k => exact .inr ⟨k, rfl, hr k rfl⟩), h.bel.grown hg h.bel.size (fun k e => Nat.le_trans h.le (hr k e)), h.ge, h.le⟩
theorem call (h : Stp w0 w g t cs W) {W2 : World} {cs2 : Array Value} (h2 : Stp w0 W g t cs2 W2) : Stp w0 w g t cs2 W2 := ⟨h2.blk, h.keep.trans h2.keep (.inl rfl), h2.bel, h.ge, h.le⟩
theorem below (h : Stp w0 w g t cs W) {W2 : World} (h2 : Below W.heap.size W W2) : Stp w0 w g t cs W2 := ⟨blk_below h.blk h2, h.keep.trans (KeepBut.of_below h2 g none) (.inl rfl), below_weaken h.bel h.bel.size h2, h.ge, h.le⟩
theorem cell (h : Stp w0 w g t cs W) (i : Nat) : W.cell? ⟨g, i, none⟩ = cs[i]? := blk_cell h.blk i
theorem frozen (h : Stp w0 w g t cs W) (i : Nat) : W.frozen? ⟨g, i, none⟩ = false := blk_frozen h.blk i
theorem cast (h : Stp w0 w g t cs W) {cs' : Array Value} (e : cs = cs') : Stp w0 w g t cs' W := e ▸ h
theorem other (h : Stp w0 w g t cs W) {k : Nat} {o : Obj} (hb : w.heap[k]? = some o) (hk : k ≠ g) : W.heap[k]? = some o := (h.keep.2 k (blk_lt hb) hk (by simp)).trans hb
theorem again (h : Stp w0 w g t cs W) : Stp w0 W g t cs W := ⟨h.blk, KeepBut.refl _ _ _, h.bel, h.ge, h.bel.size⟩
theorem old (h : Stp w0 w g t cs W) {a : Addr} {v : Value} (hc : w0.cell? a = some v) : W.cell? a = some v := (h.bel.cell (World.block_lt_of_cell? _ _ hc)).trans hc
end Stp
theorem R_keepBut {α : Type} {d : Kd α} {e B : Nat} {W W2 : World} {g : Nat} {v : Value} {xs : List α} (h : d.R e W B (fun _ => True) v xs) (hk : KeepBut W W2 g none) (hg : g < B) : d.R e W2 B (fun _ => True) v xs :=
  Kd.R_mono (Kd.R_keep (Kd.R_bound h) hk (fun k hk => by have := hk.2.1; omega)) (fun _ _ => trivial)
theorem R_farB {α : Type} {d : Kd α} {e B : Nat} {W : World} {v : Value} {xs : List α} (h : d.R e W B (fun _ => True) v xs) {k j : Nat} (hk : k < B) (u : Value) : d.R e (W.setCell ⟨k, j, none⟩ u) B (fun _ => True) v xs :=
  Kd.R_mono (Kd.R_far (p := ⟨k, j, none⟩) (Kd.R_bound h) (fun q hq => by have := hq.2.1; show q ≠ k; omega) u) (fun _ _ => trivial)
theorem R_apart {α β : Type} {d : Kd α} {d' : Kd β} {e e' B B' : Nat} {W W2 : World} {v u : Value} {xs : List α} {ys : List β} (h : d.R e W2 W.heap.size (fun _ => True) v xs) (hu : d'.R e' W B' (fun _ => True) u ys) (hB : B ≤ W.heap.size) : d.R e W2 B (fun k => some k ≠ u.ownBlock) v xs :=
  Kd.R_lower (Kd.R_mono (Kd.R_newR h hu) (fun _ hk => hk.2)) hB
end Go.Proofs.YtkpnfejfbmandaaDoor.Px
namespace Go.Proofs.YtkpnfejfbmandaaDoor.Px
open Go.RowKit Go.Proofs.YtkpnfejfbmandaaDoorW.PrintWords Go.Proofs.YtkpnfejfbmandaaDoorW.PrintLast Go.Proofs.YtkpnfejfbmandaaDoorW.PrintMore
open Go.Maps (Keyed)
set_option linter.unusedVariables false
set_option linter.unusedSimpArgs false
theorem wpList_insert_own {H : Type} {P : Program} (w : World) {ops : Array Oper} {rest : List Oper} {o : Oper} {a : Act} {Q : Exit → Act → World → Prop}
    (hg : o.guard = none) (m x v : Operand) (t : TypeId) (hop : o.op = Op.insert t m x v)
    (k e : TypeId) (K : Keyed P k) (ht : P.underlying t = some (.map k e)) (R : Value → Option (DataW H × List MemPlace)) (b n : Nat) (D : DataW H)
    (hm : a.eval m = .map (some b)) (hown : w.ownsMap P k R b n D) (hn : n < maxLen) (key val : Value) (kl : Lit) (hx : a.eval x = key) (hv : a.eval v = val) (hkey : keyOf P k key = some kl)
    (d : DataW H) (ps : List MemPlace) (hval : R val = some (d, ps))
    (hK : ∀ w', w'.ownsMap P k R b (n + 1) (D.put kl d) → w.grownBy w' (some b) → wpList P ops Q rest (a.put o.dst undef) w') :
    wpList P ops Q (o :: rest) a w := by
  refine wpList_plain hg fun K' hK' => ?_
  obtain ⟨w', hrun, r1, r2⟩ := hown.update K ht hn hkey hval
  unfold Oper.wp
  simp [execOp, hop, hm, hx, hv, hrun, Result.andThen]
  exact hK' _ _ (hK w' r1 r2)
def kwList : List (List UInt8 × Int) := [([99, 97, 108, 108], 4), ([100, 101, 102, 105, 110, 101], 6), ([101, 108, 115, 101], 7), ([101, 110, 100], 8), ([102, 108, 117, 115, 104], 5), ([105, 102], 2), ([114, 97, 110, 103, 101], 3)]
def kwD : DataW Unit := .map (kwList.map fun p => (.string p.1, .lit (.int .i64 p.2)))
def kwD0 : DataW Unit := ((((((((DataW.map []).put (.string [105, 102]) (.lit (.int .i64 2))).put (.string [114, 97, 110, 103, 101]) (.lit (.int .i64 3))).put (.string [99, 97, 108, 108]) (.lit (.int .i64 4))).put (.string [102, 108, 117, 115, 104]) (.lit (.int .i64 5))).put (.string [100, 101, 102, 105, 110, 101]) (.lit (.int .i64 6))).put (.string [101, 108, 115, 101]) (.lit (.int .i64 7))).put (.string [101, 110, 100]) (.lit (.int .i64 8)))
theorem kwD_eq : kwD0 = kwD := by rfl
theorem law9 : Keyed Tryd.prog 9 := Maps.string_keyed Tryd.underlying9
theorem kwKey (l : List UInt8) (h : l.length ≤ 100) : keyOf Tryd.prog 9 (.string ⟨l.toArray⟩) = some (.string l) := by
  have := Go.WideMaps.keyOf_string_mk (s := ⟨l.toArray⟩) Tryd.underlying9 (by unfold maxLen; show l.toArray.size ≤ _; simp; omega)
  simpa using this
set_option maxHeartbeats 1000000 in
theorem keywords_any (w : World) : Calls Tryd.prog 71 #[] w fun e w' => e = .returned (.map (some w.heap.size)) ∧ w'.ownsMap Tryd.prog 9 (plainElem (H := Unit) Tryd.prog 3) w.heap.size 7 kwD ∧ Below w.heap.size w w' := by
  have hmm := @run_makeMap Tryd.prog
  have hB0 := Aside0.mk ((Below.refl w.heap.size w).alloc (Nat.le_refl _) (.map #[] 0))
  have hO0 := Aside0.mk (World.ownsMap_made w Tryd.prog 9 (plainElem (H := Unit) Tryd.prog 3))
  go_enter Tryd.func71, Tryd.ntmps71
  go_wp2_with (first | (refine wpList_insert_own _ rfl (.tmp 1) (.const (.string ⟨#[105, 102]⟩)) (.const (.int .i64 2)) 127 rfl 9 3 law9 Tryd.underlying127 _ w.heap.size 0 _ rfl hO0.out (by unfold maxLen; omega) _ _ _ rfl rfl (kwKey [105, 102] (by decide)) _ [] (plainElem_int Tryd.underlying3 (by decide)) ?_; intro w1 q1 g1; have hB1 := Aside0.mk (hB0.out.grown g1 hB0.out.size (fun k e => by cases e; exact Nat.le_refl _)); have hO1 := Aside0.mk q1; clear q1 g1 hO0 hB0) | (refine wpList_insert_own _ rfl (.tmp 1) (.const (.string ⟨#[114, 97, 110, 103, 101]⟩)) (.const (.int .i64 3)) 127 rfl 9 3 law9 Tryd.underlying127 _ w.heap.size 1 _ rfl hO1.out (by unfold maxLen; omega) _ _ _ rfl rfl (kwKey [114, 97, 110, 103, 101] (by decide)) _ [] (plainElem_int Tryd.underlying3 (by decide)) ?_; intro w2 q2 g2; have hB2 := Aside0.mk (hB1.out.grown g2 hB1.out.size (fun k e => by cases e; exact Nat.le_refl _)); have hO2 := Aside0.mk q2; clear q2 g2 hO1 hB1) | (refine wpList_insert_own _ rfl (.tmp 1) (.const (.string ⟨#[99, 97, 108, 108]⟩)) (.const (.int .i64 4)) 127 rfl 9 3 law9 Tryd.underlying127 _ w.heap.size 2 _ rfl hO2.out (by unfold maxLen; omega) _ _ _ rfl rfl (kwKey [99, 97, 108, 108] (by decide)) _ [] (plainElem_int Tryd.underlying3 (by decide)) ?_; intro w3 q3 g3; have hB3 := Aside0.mk (hB2.out.grown g3 hB2.out.size (fun k e => by cases e; exact Nat.le_refl _)); have hO3 := Aside0.mk q3; clear q3 g3 hO2 hB2) | (refine wpList_insert_own _ rfl (.tmp 1) (.const (.string ⟨#[102, 108, 117, 115, 104]⟩)) (.const (.int .i64 5)) 127 rfl 9 3 law9 Tryd.underlying127 _ w.heap.size 3 _ rfl hO3.out (by unfold maxLen; omega) _ _ _ rfl rfl (kwKey [102, 108, 117, 115, 104] (by decide)) _ [] (plainElem_int Tryd.underlying3 (by decide)) ?_; intro w4 q4 g4; have hB4 := Aside0.mk (hB3.out.grown g4 hB3.out.size (fun k e => by cases e; exact Nat.le_refl _)); have hO4 := Aside0.mk q4; clear q4 g4 hO3 hB3) | (refine wpList_insert_own _ rfl (.tmp 1) (.const (.string ⟨#[100, 101, 102, 105, 110, 101]⟩)) (.const (.int .i64 6)) 127 rfl 9 3 law9 Tryd.underlying127 _ w.heap.size 4 _ rfl hO4.out (by unfold maxLen; omega) _ _ _ rfl rfl (kwKey [100, 101, 102, 105, 110, 101] (by decide)) _ [] (plainElem_int Tryd.underlying3 (by decide)) ?_; intro w5 q5 g5; have hB5 := Aside0.mk (hB4.out.grown g5 hB4.out.size (fun k e => by cases e; exact Nat.le_refl _)); have hO5 := Aside0.mk q5; clear q5 g5 hO4 hB4) | (refine wpList_insert_own _ rfl (.tmp 1) (.const (.string ⟨#[101, 108, 115, 101]⟩)) (.const (.int .i64 7)) 127 rfl 9 3 law9 Tryd.underlying127 _ w.heap.size 5 _ rfl hO5.out (by unfold maxLen; omega) _ _ _ rfl rfl (kwKey [101, 108, 115, 101] (by decide)) _ [] (plainElem_int Tryd.underlying3 (by decide)) ?_; intro w6 q6 g6; have hB6 := Aside0.mk (hB5.out.grown g6 hB5.out.size (fun k e => by cases e; exact Nat.le_refl _)); have hO6 := Aside0.mk q6; clear q6 g6 hO5 hB5) | (refine wpList_insert_own _ rfl (.tmp 1) (.const (.string ⟨#[101, 110, 100]⟩)) (.const (.int .i64 8)) 127 rfl 9 3 law9 Tryd.underlying127 _ w.heap.size 6 _ rfl hO6.out (by unfold maxLen; omega) _ _ _ rfl rfl (kwKey [101, 110, 100] (by decide)) _ [] (plainElem_int Tryd.underlying3 (by decide)) ?_; intro w7 q7 g7; have hB7 := Aside0.mk (hB6.out.grown g7 hB6.out.size (fun k e => by cases e; exact Nat.le_refl _)); have hO7 := Aside0.mk q7; clear q7 g7 hO6 hB6))
  go_ret
  exact ⟨rfl, by rw [← kwD_eq]; exact hO7.out, hB7.out⟩
theorem kw_mem {l : List UInt8} (h : Maps.has kwD (.string l) = true) : ∃ c, (l, c) ∈ kwList := by
  unfold kwD at h
  rw [Maps.has_eq, List.any_map, List.any_eq_true] at h
  obtain ⟨p, hp, he⟩ := h
  have : p.1 = l := by simpa [Lit.sameKey] using he
  subst this
  exact ⟨p.2, hp⟩
theorem kw_has {l : List UInt8} {c : Int} (h : (l, c) ∈ kwList) : Maps.has kwD (.string l) = true := by
  unfold kwD
  rw [Maps.has_eq, List.any_map, List.any_eq_true]
  exact ⟨_, h, by simp [Lit.sameKey]⟩
theorem kw_at {l : List UInt8} {c : Int} (h : (l, c) ∈ kwList) (zd : DataW Unit) : kwD.atKey (.string l) zd = .lit (.int .i64 c) := by
  simp only [kwList, List.mem_cons, Prod.mk.injEq, List.not_mem_nil, or_false] at h
  rcases h with ⟨rfl, rfl⟩ | ⟨rfl, rfl⟩ | ⟨rfl, rfl⟩ | ⟨rfl, rfl⟩ | ⟨rfl, rfl⟩ | ⟨rfl, rfl⟩ | ⟨rfl, rfl⟩ <;> rfl
def kwOf (k : Int) : Option (List UInt8) := (kwList.find? (fun p => p.2 == k)).map (·.1)
theorem kwOf_mem {k : Int} {s : List UInt8} (h : kwOf k = some s) : (s, k) ∈ kwList := by
  unfold kwOf at h
  obtain ⟨p, hp, rfl⟩ := Option.map_eq_some_iff.1 h
  have h1 := List.mem_of_find?_eq_some hp
  have h2 := List.find?_some hp
  simp only [beq_iff_eq] at h2
  rw [← h2]
  exact h1
end Go.Proofs.YtkpnfejfbmandaaDoor.Px
namespace Go.Proofs.YtkpnfejfbmandaaDoor.Px
open Go.RowKit Go.Proofs.YtkpnfejfbmandaaDoorW.PrintWords Go.Proofs.YtkpnfejfbmandaaDoorW.PrintLast Go.Proofs.YtkpnfejfbmandaaDoorW.PrintMore
set_option linter.unusedVariables false
set_option linter.unusedSimpArgs false
def letB (b : UInt8) : Bool := (decide (97 ≤ b.toNat) && decide (b.toNat ≤ 122)) || (decide (65 ≤ b.toNat) && decide (b.toNat ≤ 90))
def digB (b : UInt8) : Bool := decide (48 ≤ b.toNat) && decide (b.toNat ≤ 57)
def nmGo : Bool → List UInt8 → Bool
  | _, [] => true
  | first, b :: r => (letB b || (!first && (b == 95 || digB b))) && nmGo false r
def nameL (s : List UInt8) : Bool := !s.isEmpty && (decide (s.length ≤ 32) && nmGo true s)
def pathL (s : List UInt8) : Bool := s.isEmpty || (decide ((Lib.split s [46]).length ≤ 8) && (Lib.split s [46]).all nameL)
def wordCons (cur : List UInt8) (l : List (List UInt8)) : List (List UInt8) := if cur = [] then l else cur :: l
def fieldsG : List UInt8 → List UInt8 → List (List UInt8)
  | [], cur => wordCons cur []
  | b :: r, cur => if b = 32 then wordCons cur (fieldsG r []) else fieldsG r (cur ++ [b])
abbrev T4 := Int × List UInt8 × List UInt8 × Bool
def zeroT : T4 := (0, [], [], false)
def kwKind (w : List UInt8) : Option Int := (kwList.find? (fun p => p.1 == w)).map (·.2)
def named (k : Int) : Bool := k == 4 || k == 6
def leastOf (k : Int) : Nat := if k = 1 ∨ k = 2 ∨ k = 3 then 1 else 0
def mostOf (k : Int) : Nat := if k = 1 ∨ k = 2 ∨ k = 3 ∨ k = 4 then 1 else 0
def dirE (k : Int) (s p : List UInt8) (h : Bool) : Int × T4 := if pathL p = true ∧ (named k = true → nameL s = true) then (0, k, s, p, h) else (11, zeroT)
def dirP (k : Int) (s : List UInt8) (ws : List (List UInt8)) : Int × T4 :=
  if ws.length < leastOf k ∨ mostOf k < ws.length then (5, zeroT)
  else match ws with
    | [] => dirE k s [] false
    | w :: _ => if Lib.hasPrefix w [46] = true then dirE k s (w.drop 1) true else (5, zeroT)
def dirK (k : Int) (ws : List (List UInt8)) : Int × T4 :=
  if named k = true then match ws with
    | [] => (5, zeroT)
    | w :: r => if Lib.hasPrefix w [46] = true then (5, zeroT) else dirP k w r
  else dirP k [] ws
def dirF (ws : List (List UInt8)) : Int × T4 :=
  match ws with
  | [] => (5, zeroT)
  | w :: r => match kwKind w with
    | some k => dirK k r
    | none => if Lib.hasPrefix w [46] = true then dirK 1 (w :: r) else (5, zeroT)
abbrev T5 := Nat × T4
def txtT (p : Nat) (s : List UInt8) : List T5 := if s = [] then [] else [(p, 0, s, [], false)]
def lexS (p : Nat) (s : List UInt8) : Except (Nat × Int) (List T5) :=
  if h1 : Lib.index s [123, 123] < 0 then .ok (txtT p s)
  else if h2 : Lib.index (s.drop ((Lib.index s [123, 123]).toNat + 2)) [125, 125] < 0 then .error (p + (Lib.index s [123, 123]).toNat, 7)
  else
    let i := (Lib.index s [123, 123]).toNat
    let j := (Lib.index (s.drop (i + 2)) [125, 125]).toNat
    let d := dirF (fieldsG ((s.drop (i + 2)).take j) [])
    if d.1 = 0 then
      match lexS (p + i + j + 4) ((s.drop (i + 2)).drop (j + 2)) with
      | .error e => .error e
      | .ok l => .ok (txtT p (s.take i) ++ (p + i, d.2) :: l)
    else .error (p + i, d.1)
termination_by s.length
decreasing_by
  have r1 := Lib.index_room s [123, 123] (by omega)
  simp only [List.length_cons, List.length_nil] at r1
  simp only [List.length_drop]
  omega
def noPair (c : UInt8) : List UInt8 → Prop
  | a :: b :: r => ¬ (a = c ∧ b = c) ∧ noPair c (b :: r)
  | _ => True
theorem noPair_tail {c a : UInt8} : ∀ {s : List UInt8}, noPair c (a :: s) → noPair c s
  | [], _ => trivial
  | _ :: _, h => h.2
theorem pre2 (c a : UInt8) (s : List UInt8) : List.isPrefixOf [c, c] (a :: s) = true ↔ a = c ∧ s.head? = some c := by
  cases s with
  | nil =>
    constructor
    · intro h; simp only [List.isPrefixOf, Bool.and_false] at h; cases h
    · intro h; cases h.2
  | cons b r =>
    simp only [List.isPrefixOf, Bool.and_true, Bool.and_eq_true, beq_iff_eq, List.head?_cons, Option.some.injEq]
    exact ⟨fun h => ⟨h.1.symm, h.2.symm⟩, fun h => ⟨h.1.symm, h.2.symm⟩⟩
theorem idx_none {c : UInt8} : ∀ {s : List UInt8}, noPair c s → Lib.index s [c, c] = -1
  | [], _ => rfl
  | a :: s, h => by
    have ih := idx_none (noPair_tail h)
    have hp : ¬ List.isPrefixOf [c, c] (a :: s) = true := fun e => by
      obtain ⟨h1, h2⟩ := (pre2 c a s).1 e
      cases s with
      | nil => cases h2
      | cons b r => simp only [List.head?_cons, Option.some.injEq] at h2; exact h.1 ⟨h1, h2⟩
    unfold Lib.index
    rw [if_neg hp, ih]
    rfl
theorem idx_at {c : UInt8} (r : List UInt8) : ∀ {t : List UInt8}, noPair c (t ++ [c]) → Lib.index (t ++ c :: c :: r) [c, c] = t.length
  | [], _ => by
    show Lib.index (c :: c :: r) [c, c] = 0
    unfold Lib.index
    rw [if_pos ((pre2 c c _).2 ⟨rfl, rfl⟩)]
  | a :: t, h => by
    have ih := idx_at r (noPair_tail (s := t ++ [c]) h)
    have hp : ¬ List.isPrefixOf [c, c] (a :: (t ++ c :: c :: r)) = true := fun e => by
      obtain ⟨h1, h2⟩ := (pre2 c a _).1 e
      cases t with
      | nil => exact h.1 ⟨h1, rfl⟩
      | cons b t => simp only [List.cons_append, List.head?_cons, Option.some.injEq] at h2; exact h.1 ⟨h1, h2⟩
    show Lib.index (a :: (t ++ c :: c :: r)) [c, c] = _
    unfold Lib.index
    rw [if_neg hp, ih]
    have : ((t.length : Int) == -1) = false := by rw [beq_eq_false_iff_ne]; omega
    rw [this]
    simp
theorem idx_cases (c : UInt8) : ∀ (s : List UInt8), noPair c s ∨ ∃ t r, s = t ++ c :: c :: r ∧ noPair c (t ++ [c])
  | [] => .inl trivial
  | [a] => .inl trivial
  | a :: b :: s => by
    by_cases hp : a = c ∧ b = c
    · exact .inr ⟨[], s, by rw [hp.1, hp.2]; rfl, trivial⟩
    · rcases idx_cases c (b :: s) with h | ⟨t, r, e, h⟩
      · exact .inl ⟨hp, h⟩
      · refine .inr ⟨a :: t, r, by rw [e]; rfl, ?_⟩
        cases t with
        | nil =>
          simp only [List.nil_append, List.cons.injEq] at e
          exact ⟨fun x => hp ⟨x.1, e.1⟩, trivial⟩
        | cons d t =>
          simp only [List.cons_append, List.cons.injEq] at e
          exact ⟨fun x => hp ⟨x.1, by rw [e.1]; exact x.2⟩, h⟩
theorem lexS_text {p : Nat} {s : List UInt8} (h : noPair 123 s) : lexS p s = .ok (txtT p s) := by
  rw [lexS, dif_pos (by rw [idx_none h]; decide)]
theorem lexS_open {p : Nat} {t r : List UInt8} (h : noPair 123 (t ++ [123])) (hr : noPair 125 r) : lexS p (t ++ 123 :: 123 :: r) = .error (p + t.length, 7) := by
  have e := idx_at r h
  have hd : (t ++ 123 :: 123 :: r).drop (t.length + 2) = r := by rw [← List.drop_drop, List.drop_left]; rfl
  rw [lexS, dif_neg (by rw [e]; omega), e, Int.toNat_natCast, hd, dif_pos (by rw [idx_none hr]; decide)]
theorem lexS_dir {p : Nat} {t u r : List UInt8} (h : noPair 123 (t ++ [123])) (hu : noPair 125 (u ++ [125])) :
    lexS p (t ++ 123 :: 123 :: (u ++ 125 :: 125 :: r)) =
      if (dirF (fieldsG u [])).1 = 0 then
        match lexS (p + t.length + u.length + 4) r with
        | .error e => .error e
        | .ok l => .ok (txtT p t ++ (p + t.length, (dirF (fieldsG u [])).2) :: l)
      else .error (p + t.length, (dirF (fieldsG u [])).1) := by
  have e := idx_at (u ++ 125 :: 125 :: r) h
  have e2 := idx_at r hu
  have hd : (t ++ 123 :: 123 :: (u ++ 125 :: 125 :: r)).drop (t.length + 2) = u ++ 125 :: 125 :: r := by rw [← List.drop_drop, List.drop_left]; rfl
  have hd2 : (u ++ 125 :: 125 :: r).drop (u.length + 2) = r := by rw [← List.drop_drop, List.drop_left]; rfl
  have ht : (t ++ 123 :: 123 :: (u ++ 125 :: 125 :: r)).take t.length = t := List.take_left
  have ht2 : (u ++ 125 :: 125 :: r).take u.length = u := List.take_left
  rw [lexS, dif_neg (by rw [e]; omega), e, Int.toNat_natCast, hd, dif_neg (by rw [e2]; omega)]
  simp only [Int.toNat_natCast]
  rw [hd, e2]
  simp only [Int.toNat_natCast]
  rw [hd2, ht, ht2]
inductive Way : List UInt8 → Prop
  | text (s) (h : noPair 123 s) : Way s
  | open_ (t r) (h : noPair 123 (t ++ [123])) (hr : noPair 125 r) : Way (t ++ 123 :: 123 :: r)
  | dir (t u r) (h : noPair 123 (t ++ [123])) (hu : noPair 125 (u ++ [125])) : Way (t ++ 123 :: 123 :: (u ++ 125 :: 125 :: r))
theorem way (s : List UInt8) : Way s := by
  rcases idx_cases 123 s with h | ⟨t, r, rfl, h⟩
  · exact .text s h
  · rcases idx_cases 125 r with hr | ⟨u, r, rfl, hu⟩
    · exact .open_ t r h hr
    · exact .dir t u r h hu
def tokS (x : T5) : S76 := ⟨x.2.1, x.1, ⟨x.2.2.1.toArray⟩, ⟨x.2.2.2.1.toArray⟩, x.2.2.2.2⟩
def lexR (s : ByteArray) : Except (Nat × Int) (List T5) → List S76 × Int × Int
  | .ok l => (l.map tokS, s.size, 0)
  | .error (p, e) => ([], p, e)
def lexF (s : ByteArray) : List S76 × Int × Int := if (s.size : Int) > 65536 then ([], 0, 6) else lexR s (lexS 0 s.data.toList)
end Go.Proofs.YtkpnfejfbmandaaDoor.Px
namespace Go.Proofs.YtkpnfejfbmandaaDoor.Px
open Go.RowKit Go.Proofs.YtkpnfejfbmandaaDoorW.PrintWords Go.Proofs.YtkpnfejfbmandaaDoorW.PrintLast Go.Proofs.YtkpnfejfbmandaaDoorW.PrintMore
set_option linter.unusedVariables false
set_option linter.unusedSimpArgs false
def isSp (x : Nat) : Bool := (x : Int) == 32
theorem get_list (s : ByteArray) (i : Nat) (h : i < s.size) : s.data.toList[i]? = some (s.get! i) := by
  have e : s.get! i = s[i]'h := by
    simp [ByteArray.get!, getElem!_pos, h]
    rfl
  rw [e]
  have hl : i < s.data.toList.length := by rw [data_length]; exact h
  rw [List.getElem?_eq_getElem hl]
  simp [ByteArray.getElem_eq_getElem_data]
theorem dec_high (s : ByteArray) (pos : Nat) (h : pos < s.size) (ha : 128 ≤ (s.get! pos).toNat) :
    128 ≤ (Utf8.decode s pos).1 ∧ 1 ≤ (Utf8.decode s pos).2 ∧ pos + (Utf8.decode s pos).2 ≤ s.size ∧ ∀ j, j < (Utf8.decode s pos).2 → 128 ≤ (s.get! (pos + j)).toNat := by
  rw [Lib.decode_at]
  unfold Lib.decodeN
  rw [if_neg (by omega)]
  have one : ∀ j, j < 1 → 128 ≤ (s.get! (pos + j)).toNat := fun j hj => by
    obtain rfl : j = 0 := by omega
    exact ha
  repeat' split
  all_goals refine ⟨by first | omega | (show 128 ≤ 65533; omega), by first | omega | (show 1 ≤ 1; omega), by first | omega | (show pos + 1 ≤ s.size; omega), fun j hj => ?_⟩
  all_goals first
    | exact one j hj
    | (have hj2 : j = 0 ∨ j = 1 ∨ j = 2 ∨ j = 3 := by
         simp only at hj
         omega
       rcases hj2 with rfl | rfl | rfl | rfl
       · exact ha
       all_goals first | (simp only at hj; omega))
theorem fieldsG_skip : ∀ (t r cur : List UInt8), (∀ b ∈ t, b ≠ 32) → fieldsG (t ++ r) cur = fieldsG r (cur ++ t)
  | [], r, cur, _ => by simp
  | b :: t, r, cur, h => by
    show fieldsG (b :: (t ++ r)) cur = _
    rw [fieldsG, if_neg (h b (by simp)), fieldsG_skip t r _ (fun c hc => h c (by simp [hc]))]; simp
def curOf (s : ByteArray) (pos : Nat) : Option Nat → List UInt8
  | none => []
  | some a => (s.extract a pos).data.toList
def endOf (s : ByteArray) (x : List (Nat × Nat) × Option Nat) : List (List UInt8) := (Lib.closeSpans s x).map fun y => (s.extract y.1 y.2).data.toList
theorem ext_split (s : ByteArray) (a b c : Nat) (h1 : a ≤ b) (h2 : b ≤ c) : (s.extract a b).data.toList ++ (s.extract b c).data.toList = (s.extract a c).data.toList := by
  rw [Lib.extract_data, Lib.extract_data, Lib.extract_data]
  rw [show c - a = (b - a) + (c - b) by omega, List.take_add, List.drop_drop, show a + (b - a) = b by omega]
theorem ext_len (s : ByteArray) (a b : Nat) (h1 : a ≤ b) (h2 : b ≤ s.size) : (s.extract a b).data.toList.length = b - a := by rw [data_length, ByteArray.size_extract]; omega
theorem spans_is (s : ByteArray) : ∀ (f pos : Nat) (st : Option Nat) (acc : List (Nat × Nat)), pos ≤ s.size → s.size ≤ pos + f → (∀ a, st = some a → a < pos) →
    endOf s (Lib.spansFromP isSp s f pos st acc) = (acc.map fun y => (s.extract y.1 y.2).data.toList) ++ fieldsG (s.data.toList.drop pos) (curOf s pos st) := by
  have fin : ∀ (pos : Nat) (st : Option Nat) (acc : List (Nat × Nat)), pos = s.size → (∀ a, st = some a → a < pos) → endOf s (acc, st) = (acc.map fun y => (s.extract y.1 y.2).data.toList) ++ fieldsG (s.data.toList.drop pos) (curOf s pos st) := by
    intro pos st acc hp hst
    rw [List.drop_eq_nil_of_le (by rw [data_length]; omega)]
    subst hp
    cases st with
    | none => simp [endOf, Lib.closeSpans, fieldsG, wordCons, curOf]
    | some a =>
      have hlt := hst a rfl
      have hne : ¬ (s.extract a s.size).data.toList = [] := fun e => by
        have := ext_len s a s.size (by omega) (Nat.le_refl _)
        rw [e] at this; simp at this; omega
      simp [endOf, Lib.closeSpans, fieldsG, wordCons, curOf, hne]
      omega
  intro f
  induction f with
  | zero =>
    intro pos st acc h1 h2 hst
    exact fin pos st acc (by omega) hst
  | succ f ih =>
    intro pos st acc h1 h2 hst
    by_cases hlt : pos < s.size
    case neg =>
      rw [Lib.spansFromP_end _ _ _ _ _ _ hlt]
      exact fin pos st acc (by omega) hst
    have hg := get_list s pos hlt
    have step : Lib.spansFromP isSp s (f + 1) pos st acc = if pos < s.size then (if isSp (Utf8.decode s pos).1 then
        (match st with
         | some a => Lib.spansFromP isSp s f (pos + (Utf8.decode s pos).2) none (acc ++ [(a, pos)])
         | none => Lib.spansFromP isSp s f (pos + (Utf8.decode s pos).2) none acc)
       else
        (match st with
         | some a => Lib.spansFromP isSp s f (pos + (Utf8.decode s pos).2) (some a) acc
         | none => Lib.spansFromP isSp s f (pos + (Utf8.decode s pos).2) (some pos) acc)) else (acc, st) := by
      cases st <;> rfl
    rw [step, if_pos hlt]
    clear step
    have hdrop : s.data.toList.drop pos = s.get! pos :: s.data.toList.drop (pos + 1) := by
      obtain ⟨hl, e⟩ := List.getElem?_eq_some_iff.1 hg
      rw [List.drop_eq_getElem_cons hl, e]
    have skip : ∀ k, 1 ≤ k → pos + k ≤ s.size → (∀ j, j < k → s.get! (pos + j) ≠ 32) → isSp (Utf8.decode s pos).1 = false → (Utf8.decode s pos).2 = k →
        endOf s (if isSp (Utf8.decode s pos).1 = true then (match st with
         | some a => Lib.spansFromP isSp s f (pos + (Utf8.decode s pos).2) none (acc ++ [(a, pos)])
         | none => Lib.spansFromP isSp s f (pos + (Utf8.decode s pos).2) none acc)
       else
        (match st with
         | some a => Lib.spansFromP isSp s f (pos + (Utf8.decode s pos).2) (some a) acc
         | none => Lib.spansFromP isSp s f (pos + (Utf8.decode s pos).2) (some pos) acc)) = (acc.map fun y => (s.extract y.1 y.2).data.toList) ++ fieldsG (s.data.toList.drop pos) (curOf s pos st) := by
      intro k hk1 hk2 hk3 hsp hw
      rw [hw, if_neg (by rw [hsp]; decide)]
      have ht : s.data.toList.drop pos = (s.extract pos (pos + k)).data.toList ++ s.data.toList.drop (pos + k) := by
        rw [Lib.extract_data, Nat.add_sub_cancel_left, ← List.drop_drop, List.take_append_drop]
      have hn : ∀ b ∈ (s.extract pos (pos + k)).data.toList, b ≠ 32 := fun b hb => by
        obtain ⟨j, hj, e⟩ := List.getElem_of_mem hb
        have hl := ext_len s pos (pos + k) (by omega) hk2
        have hj2 : j < k := by omega
        have hx : (s.extract pos (pos + k)).data.toList[j]? = some (s.get! (pos + j)) := by
          rw [Lib.extract_data, Nat.add_sub_cancel_left, List.getElem?_take, if_pos hj2, List.getElem?_drop, get_list s _ (by omega)]
        rw [List.getElem?_eq_getElem hj, e] at hx
        rw [Option.some.inj hx]
        exact hk3 j hj2
      rw [ht, fieldsG_skip _ _ _ hn]
      cases st with
      | none =>
        dsimp only
        rw [ih _ _ _ hk2 (by omega) (fun a e => by cases e; omega)]
        simp [curOf]
      | some a =>
        dsimp only
        have hlt' := hst a rfl
        rw [ih _ _ _ hk2 (by omega) (fun a' e => by cases e; omega)]
        simp only [curOf]
        rw [ext_split s a pos (pos + k) (by omega) (by omega)]
    by_cases ha : (s.get! pos).toNat < 128
    · have hdec : Utf8.decode s pos = ((s.get! pos).toNat, 1) := by
        have e : s.get! pos = s[pos]'hlt := by
          simp [ByteArray.get!, getElem!_pos, hlt]
          rfl
        rw [decode_ascii s pos hlt (by rw [← e]; exact ha), e]
      by_cases h32 : s.get! pos = 32
      · have hsp : isSp (Utf8.decode s pos).1 = true := by rw [hdec, h32]; rfl
        have hw : (Utf8.decode s pos).2 = 1 := by rw [hdec]
        rw [hw, if_pos hsp, hdrop, fieldsG, if_pos h32]
        cases st with
        | none =>
          dsimp only
          rw [ih _ _ _ (by omega) (by omega) (fun a e => by cases e)]
          simp [curOf, wordCons]
        | some a =>
          dsimp only
          have hlt' := hst a rfl
          have hne : ¬ (s.extract a pos).data.toList = [] := fun e => by
            have := ext_len s a pos (by omega) h1
            rw [e] at this; simp at this; omega
          rw [ih _ _ _ (by omega) (by omega) (fun a e => by cases e)]
          simp [curOf, wordCons, hne]
          omega
      · refine skip 1 (Nat.le_refl _) (by omega) (fun j hj => ?_) ?_ (by rw [hdec])
        · obtain rfl : j = 0 := by omega
          exact h32
        · rw [hdec]
          unfold isSp
          rw [beq_eq_false_iff_ne]
          intro e
          exact h32 (UInt8.toNat_inj.1 (by have e : ((s.get! pos).toNat : Int) = 32 := e
                                           have : (s.get! pos).toNat = 32 := by omega
                                           rw [this]; rfl))
    · obtain ⟨d1, d2, d3, d4⟩ := dec_high s pos hlt (by omega)
      refine skip _ d2 d3 (fun j hj e => ?_) ?_ rfl
      · have := d4 j hj
        rw [e] at this
        exact absurd this (by decide)
      · unfold isSp
        rw [beq_eq_false_iff_ne]; omega
theorem fields_is (s : ByteArray) : (Lib.goFieldsP isSp s).map (·.data.toList) = fieldsG s.data.toList [] := by
  have := spans_is s s.size 0 none [] (Nat.zero_le _) (by omega) (fun a e => by cases e)
  unfold Lib.goFieldsP Lib.spansOfP
  rw [List.map_map]
  unfold endOf at this
  rw [List.map_nil, List.nil_append, List.drop_zero] at this
  exact this
end Go.Proofs.YtkpnfejfbmandaaDoor.Px
namespace Go.Proofs
set_option linter.unusedVariables false
set_option linter.unusedSimpArgs false
open Go.Shelf
def Tryd.lays137_ren : Go.Shelf.Ren := ⟨fun | 137 => 123 | 217 => 98 | 266 => 109 | n => n, fun | 9 => 9 | 5 => 5 | 3 => 3 | n => n, fun | n => n⟩
theorem Tryd.lays137 : Go.Proofs.Lays.n137 Tryd.prog Tryd.lays137_ren := {
  mixed := by kernel_rfl
  f137 := Tryd.func123.trans (congrArg some (by kernel_rfl))
  f217 := Tryd.func98.trans (congrArg some (by kernel_rfl))
  f266 := Tryd.func109.trans (congrArg some (by kernel_rfl))
  t3 := Tryd.underlying3
  a3 := Tryd.isAgg3
  z3 := Tryd.sizeOf3
  v3 := Tryd.zeroValue3
  t5 := Tryd.underlying5
  a5 := Tryd.isAgg5
  z5 := Tryd.sizeOf5
  v5 := Tryd.zeroValue5
  t9 := Tryd.underlying9
  a9 := Tryd.isAgg9
  z9 := Tryd.sizeOf9
  v9 := Tryd.zeroValue9 }
open Go.RowKit in
theorem Tryd.strings_IndexByte (s : ByteArray) (c : Int) (w : World) :
    Calls Tryd.prog 123 #[.string s, .int .u8 c] w fun e w' => e = .returned (.int .i64 (Lib.indexByte s.data.toList c.toNat.toUInt8)) ∧ w' = w := Any.strings_IndexByte Tryd.lays137 s c w
def Tryd.lays210_ren : Go.Shelf.Ren := ⟨fun | 210 => 90 | 206 => 48 | n => n, fun | 9 => 9 | 4 => 4 | 3 => 3 | n => n, fun | n => n⟩
def Tryd.lays103_ren : Go.Shelf.Ren := ⟨fun | 103 => 76 | 210 => 90 | 206 => 48 | n => n, fun | 9 => 9 | 4 => 4 | 24 => 157 | 3 => 3 | n => n, fun | n => n⟩
theorem Tryd.lays103 : Go.Proofs.Lays.n103 Tryd.prog Tryd.lays103_ren := {
  mixed := by kernel_rfl
  f103 := Tryd.func76.trans (congrArg some (by kernel_rfl))
  f206 := Tryd.func48.trans (congrArg some (by kernel_rfl))
  f210 := Tryd.func90.trans (congrArg some (by kernel_rfl))
  t3 := Tryd.underlying3
  a3 := Tryd.isAgg3
  z3 := Tryd.sizeOf3
  v3 := Tryd.zeroValue3
  t4 := Tryd.underlying4
  a4 := Tryd.isAgg4
  z4 := Tryd.sizeOf4
  v4 := Tryd.zeroValue4
  t9 := Tryd.underlying9
  a9 := Tryd.isAgg9
  z9 := Tryd.sizeOf9
  v9 := Tryd.zeroValue9
  t24 := Tryd.underlying157
  a24 := Tryd.isAgg157
  z24 := Tryd.sizeOf157
  v24 := Tryd.zeroValue157 }
open Go.RowKit in
theorem Tryd.strings_CutPrefix (s p : ByteArray) (w : World) :
    Calls Tryd.prog 76 #[.string s, .string p] w fun e w' => e = .returned (.tuple #[.string ⟨(Lib.trimPrefix s.data.toList p.data.toList).toArray⟩, .bool (Lib.hasPrefix s.data.toList p.data.toList)]) ∧ w' = w := Any.strings_CutPrefix Tryd.lays103 s p w
def Tryd.lays219_ren : Go.Shelf.Ren := ⟨fun | 219 => 89 | 217 => 98 | 225 => 99 | 224 => 100 | 267 => 101 | 266 => 109 | 314 => 110 | n => n, fun | 9 => 9 | 3 => 3 | 4 => 4 | 5 => 5 | 46 => 49 | 146 => 104 | 51 => 103 | n => n, fun | 1 => 2 | n => n⟩
def Tryd.lays145_ren : Go.Shelf.Ren := ⟨fun | 145 => 51 | 220 => 75 | 219 => 89 | 217 => 98 | 225 => 99 | 224 => 100 | 267 => 101 | 266 => 109 | 314 => 110 | n => n, fun | 9 => 9 | 4 => 4 | 59 => 110 | 3 => 3 | 5 => 5 | 46 => 49 | 146 => 104 | 51 => 103 | n => n, fun | 1 => 2 | n => n⟩
theorem Tryd.lays145 : Go.Proofs.Lays.n145 Tryd.prog Tryd.lays145_ren := {
  mixed := by kernel_rfl
  f145 := Tryd.func51.trans (congrArg some (by kernel_rfl))
  f217 := Tryd.func98.trans (congrArg some (by kernel_rfl))
  f219 := Tryd.func89.trans (congrArg some (by kernel_rfl))
  f220 := Tryd.func75.trans (congrArg some (by kernel_rfl))
  f224 := Tryd.func100.trans (congrArg some (by kernel_rfl))
  f225 := Tryd.func99.trans (congrArg some (by kernel_rfl))
  f266 := Tryd.func109.trans (congrArg some (by kernel_rfl))
  f267 := Tryd.func101.trans (congrArg some (by kernel_rfl))
  f314 := Tryd.func110.trans (congrArg some (by kernel_rfl))
  t3 := Tryd.underlying3
  a3 := Tryd.isAgg3
  z3 := Tryd.sizeOf3
  v3 := Tryd.zeroValue3
  t4 := Tryd.underlying4
  a4 := Tryd.isAgg4
  z4 := Tryd.sizeOf4
  v4 := Tryd.zeroValue4
  t5 := Tryd.underlying5
  a5 := Tryd.isAgg5
  z5 := Tryd.sizeOf5
  v5 := Tryd.zeroValue5
  t9 := Tryd.underlying9
  a9 := Tryd.isAgg9
  z9 := Tryd.sizeOf9
  v9 := Tryd.zeroValue9
  t46 := Tryd.underlying49
  a46 := Tryd.isAgg49
  z46 := Tryd.sizeOf49
  v46 := Tryd.zeroValue49
  t51 := Tryd.underlying103
  a51 := Tryd.isAgg103
  z51 := Tryd.sizeOf103
  v51 := Tryd.zeroValue103
  t59 := Tryd.underlying110
  a59 := Tryd.isAgg110
  z59 := Tryd.sizeOf110
  v59 := Tryd.zeroValue110
  t146 := Tryd.underlying104
  a146 := Tryd.isAgg104
  z146 := Tryd.sizeOf104
  v146 := Tryd.zeroValue104
  g1 := by kernel_rfl }
open Go.RowKit Go.Lib in
theorem Tryd.strings_Cut (s sep : ByteArray) (m : Int) (w : World) (hs : s.size < 4294967281) (hm : w.cell? ⟨2, 0, none⟩ = some (.int .i64 m)) :
    Calls Tryd.prog 51 #[.string s, .string sep] w fun e w' => e = .returned (.tuple #[.string ⟨(Lib.cut s.data.toList sep.data.toList).1.toArray⟩, .string ⟨(Lib.cut s.data.toList sep.data.toList).2.1.toArray⟩, .bool (Lib.cut s.data.toList sep.data.toList).2.2]) ∧ ∃ n, w' = w.drewN n := Any.strings_Cut Tryd.lays145 s sep m w hs hm
def Tryd.lays99_ren : Go.Shelf.Ren := ⟨fun | 99 => 25 | 206 => 48 | n => n, fun | 9 => 9 | 4 => 4 | 3 => 3 | n => n, fun | n => n⟩
theorem Tryd.lays99 : Go.Proofs.Lays.n99 Tryd.prog Tryd.lays99_ren := {
  mixed := by kernel_rfl
  f99 := Tryd.func25.trans (congrArg some (by kernel_rfl))
  f206 := Tryd.func48.trans (congrArg some (by kernel_rfl))
  t3 := Tryd.underlying3
  a3 := Tryd.isAgg3
  z3 := Tryd.sizeOf3
  v3 := Tryd.zeroValue3
  t4 := Tryd.underlying4
  a4 := Tryd.isAgg4
  z4 := Tryd.sizeOf4
  v4 := Tryd.zeroValue4
  t9 := Tryd.underlying9
  a9 := Tryd.isAgg9
  z9 := Tryd.sizeOf9
  v9 := Tryd.zeroValue9 }
open Go.RowKit Go.Lib in
theorem Tryd.strings_HasPrefix (s p : ByteArray) (w : World) :
    Calls Tryd.prog 25 #[.string s, .string p] w fun e w' => e = .returned (.bool (Lib.hasPrefix s.data.toList p.data.toList)) ∧ w' = w := Any.strings_HasPrefix Tryd.lays99 s p w
def Tryd.lays221_ren : Go.Shelf.Ren := ⟨fun | 221 => 95 | 268 => 106 | 138 => 107 | 143 => 108 | 195 => 119 | 197 => 120 | 218 => 121 | 219 => 89 | 260 => 124 | 217 => 98 | 225 => 99 | 224 => 100 | 267 => 101 | 266 => 109 | 314 => 110 | n => n, fun | 9 => 9 | 3 => 3 | 31 => 114 | 4 => 4 | 0 => 0 | 105 => 187 | 21 => 21 | 5 => 5 | 46 => 49 | 119 => 190 | 139 => 193 | 138 => 192 | 146 => 104 | 51 => 103 | n => n, fun | 1 => 2 | 3 => 3 | 4 => 4 | n => n⟩
def Tryd.lays146_ren : Go.Shelf.Ren := ⟨fun | 146 => 83 | 221 => 95 | 268 => 106 | 138 => 107 | 143 => 108 | 195 => 119 | 197 => 120 | 218 => 121 | 219 => 89 | 260 => 124 | 217 => 98 | 225 => 99 | 224 => 100 | 267 => 101 | 266 => 109 | 314 => 110 | n => n, fun | 9 => 9 | 31 => 114 | 3 => 3 | 4 => 4 | 0 => 0 | 105 => 187 | 21 => 21 | 5 => 5 | 46 => 49 | 119 => 190 | 139 => 193 | 138 => 192 | 146 => 104 | 51 => 103 | n => n, fun | 1 => 2 | 3 => 3 | 4 => 4 | n => n⟩
theorem Tryd.lays146 : Go.Proofs.Lays.n146 Tryd.prog Tryd.lays146_ren := {
  mixed := by kernel_rfl
  f138 := Tryd.func107.trans (congrArg some (by kernel_rfl))
  f143 := Tryd.func108.trans (congrArg some (by kernel_rfl))
  f146 := Tryd.func83.trans (congrArg some (by kernel_rfl))
  f195 := Tryd.func119.trans (congrArg some (by kernel_rfl))
  f197 := Tryd.func120.trans (congrArg some (by kernel_rfl))
  f217 := Tryd.func98.trans (congrArg some (by kernel_rfl))
  f218 := Tryd.func121.trans (congrArg some (by kernel_rfl))
  f219 := Tryd.func89.trans (congrArg some (by kernel_rfl))
  f221 := Tryd.func95.trans (congrArg some (by kernel_rfl))
  f224 := Tryd.func100.trans (congrArg some (by kernel_rfl))
  f225 := Tryd.func99.trans (congrArg some (by kernel_rfl))
  f260 := Tryd.func124.trans (congrArg some (by kernel_rfl))
  f266 := Tryd.func109.trans (congrArg some (by kernel_rfl))
  f267 := Tryd.func101.trans (congrArg some (by kernel_rfl))
  f268 := Tryd.func106.trans (congrArg some (by kernel_rfl))
  f314 := Tryd.func110.trans (congrArg some (by kernel_rfl))
  t0 := Tryd.underlying0
  a0 := Tryd.isAgg0
  z0 := Tryd.sizeOf0
  v0 := Tryd.zeroValue0
  t3 := Tryd.underlying3
  a3 := Tryd.isAgg3
  z3 := Tryd.sizeOf3
  v3 := Tryd.zeroValue3
  t4 := Tryd.underlying4
  a4 := Tryd.isAgg4
  z4 := Tryd.sizeOf4
  v4 := Tryd.zeroValue4
  t5 := Tryd.underlying5
  a5 := Tryd.isAgg5
  z5 := Tryd.sizeOf5
  v5 := Tryd.zeroValue5
  t9 := Tryd.underlying9
  a9 := Tryd.isAgg9
  z9 := Tryd.sizeOf9
  v9 := Tryd.zeroValue9
  t21 := Tryd.underlying21
  a21 := Tryd.isAgg21
  z21 := Tryd.sizeOf21
  v21 := Tryd.zeroValue21
  t31 := Tryd.underlying114
  a31 := Tryd.isAgg114
  z31 := Tryd.sizeOf114
  v31 := Tryd.zeroValue114
  t46 := Tryd.underlying49
  a46 := Tryd.isAgg49
  z46 := Tryd.sizeOf49
  v46 := Tryd.zeroValue49
  t51 := Tryd.underlying103
  a51 := Tryd.isAgg103
  z51 := Tryd.sizeOf103
  v51 := Tryd.zeroValue103
  t105 := Tryd.underlying187
  a105 := Tryd.isAgg187
  z105 := Tryd.sizeOf187
  v105 := Tryd.zeroValue187
  t119 := Tryd.underlying190
  a119 := Tryd.isAgg190
  z119 := Tryd.sizeOf190
  t138 := Tryd.underlying192
  a138 := Tryd.isAgg192
  z138 := Tryd.sizeOf192
  v138 := Tryd.zeroValue192
  t139 := Tryd.underlying193
  a139 := Tryd.isAgg193
  z139 := Tryd.sizeOf193
  v139 := Tryd.zeroValue193
  t146 := Tryd.underlying104
  a146 := Tryd.isAgg104
  z146 := Tryd.sizeOf104
  v146 := Tryd.zeroValue104
  g1 := by kernel_rfl
  g3 := by kernel_rfl
  g4 := by kernel_rfl }
open Go.RowKit Go.Lib in
theorem Tryd.strings_Split (s sep : ByteArray) (m : Int) (w : World) (hs : s.size < 4294967281) (hm : w.cell? ⟨2, 0, none⟩ = some (.int .i64 m)) (h1 : 1 ≤ sep.size) :
    Calls Tryd.prog 83 #[.string s, .string sep] w fun e w' =>
      e = .returned (.slice (some ⟨w.heap.size, 0, none⟩) (Lib.countB s sep + 1) (Lib.countB s sep + 1)) ∧ w' = w.alloc (.cells ((Lib.splitB sep 0 (Lib.countB s sep) s).map Value.string).toArray 9) := Any.strings_Split Tryd.lays146 (by kernel_rfl) s sep m w hs hm h1
def Tryd.lays229_ren : Go.Shelf.Ren := ⟨fun | 229 => 53 | n => n, fun | 9 => 9 | 40 => 116 | 31 => 114 | 152 => 159 | 3 => 3 | 0 => 0 | 4 => 4 | 21 => 21 | 154 => 161 | n => n, fun | n => n⟩
theorem Tryd.lays229 : Go.Proofs.Lays.n229 Tryd.prog Tryd.lays229_ren := {
  mixed := by kernel_rfl
  f229 := Tryd.func53.trans (congrArg some (by kernel_rfl))
  t0 := Tryd.underlying0
  a0 := Tryd.isAgg0
  z0 := Tryd.sizeOf0
  v0 := Tryd.zeroValue0
  t3 := Tryd.underlying3
  a3 := Tryd.isAgg3
  z3 := Tryd.sizeOf3
  v3 := Tryd.zeroValue3
  t4 := Tryd.underlying4
  a4 := Tryd.isAgg4
  z4 := Tryd.sizeOf4
  v4 := Tryd.zeroValue4
  t9 := Tryd.underlying9
  a9 := Tryd.isAgg9
  z9 := Tryd.sizeOf9
  v9 := Tryd.zeroValue9
  t21 := Tryd.underlying21
  a21 := Tryd.isAgg21
  z21 := Tryd.sizeOf21
  v21 := Tryd.zeroValue21
  t31 := Tryd.underlying114
  a31 := Tryd.isAgg114
  z31 := Tryd.sizeOf114
  v31 := Tryd.zeroValue114
  t40 := Tryd.underlying116
  a40 := Tryd.isAgg116
  z40 := Tryd.sizeOf116
  v40 := Tryd.zeroValue116
  t152 := Tryd.underlying159
  a152 := Tryd.isAgg159
  z152 := Tryd.sizeOf159
  v152 := Tryd.zeroValue159
  t154 := Tryd.underlying161
  a154 := Tryd.isAgg161
  z154 := Tryd.sizeOf161
  v154 := Tryd.zeroValue161 }
open Go.RowKit Go.Lib in
theorem Tryd.strings_FieldsFunc_runes (g : Nat) (lb : Array Value) (eg : ∀ args w, (callFunc g args).run Tryd.prog w = .ok (.enter g args) w) (p : Nat → Bool) (s : ByteArray) (w : World) (hs : s.size ≤ 4294967296) (hp : PredAtRunes Tryd.prog g lb p w) :
    Calls Tryd.prog 53 #[.string s, .func (.func g) #[] lb] w fun e w' => ∃ A, e = .returned (.slice (some ⟨A, 0, none⟩) (Lib.goFieldsP p s).length (Lib.goFieldsP p s).length) ∧ w.heap.size ≤ A ∧
      w'.ownsRow w.heap.size 9 1 (.slice (some ⟨A, 0, none⟩) (Lib.goFieldsP p s).length (Lib.goFieldsP p s).length) (Lib.goFieldsP p s).length ((Lib.goFieldsP p s).map Value.string) ∧ Below w.heap.size w w' := Any.strings_FieldsFunc_runes Tryd.lays229 g lb eg p s w hs hp (by kernel_rfl) (by kernel_rfl)
end Go.Proofs
