import Derived.Test.YtkpnfejfbmandaaDoorCU2
import Derived.Maps.RangeWalk
import Derived.Lib.FieldsP
import Derived.Lib.Split
import Derived.Lib.IndexMore
import Derived.Lib.DecodeN
/- Merged texts: U Kw La Lc. -/
/- Small lemmas on worlds, states and rows that the walks of this seat use. -/
namespace Go.Proofs.YtkpnfejfbmandaaDoor.Px
open Go.RowKit Go.Proofs.YtkpnfejfbmandaaDoorW.PrintWords Go.Proofs.YtkpnfejfbmandaaDoorW.PrintLast Go.Proofs.YtkpnfejfbmandaaDoorW.PrintMore
set_option linter.unusedVariables false
set_option linter.unusedSimpArgs false
/-- A state's block g (type t, cells cs) in the world W; since the call began in w nothing else that lay has turned. w0: an elder world, in which what the state leads to was read. -/
structure Stp (w0 w : World) (g t : Nat) (cs : Array Value) (W : World) : Prop where
  blk : W.heap[g]? = some (.cells cs t (0, 0))
  keep : KeepBut w W g none
  bel : Below w0.heap.size w0 W
  ge : w0.heap.size ≤ g
  le : w0.heap.size ≤ w.heap.size
theorem blk_new' {w : World} {o : Obj} {k : Nat} (h : w.heap.size = k) : (w.alloc o).heap[k]? = some o := h ▸ blk_new w o
theorem blk_set8 {w : World} {g t : Nat} {cs : Array Value} (h : w.heap[g]? = some (.cells cs t (0, 0))) (hs : cs.size = 8) (a b c d e f p q : Value) :
    ((((((((w.setCell ⟨g, 0, none⟩ a).setCell ⟨g, 1, none⟩ b).setCell ⟨g, 2, none⟩ c).setCell ⟨g, 3, none⟩ d).setCell ⟨g, 4, none⟩ e).setCell ⟨g, 5, none⟩ f).setCell ⟨g, 6, none⟩ p).setCell ⟨g, 7, none⟩ q).heap[g]? = some (.cells #[a, b, c, d, e, f, p, q] t (0, 0)) := by
  have h8 := blk_set (blk_set (blk_set (blk_set (blk_set (blk_set (blk_set (blk_set h 0 a) 1 b) 2 c) 3 d) 4 e) 5 f) 6 p) 7 q
  refine h8.trans (congrArg (fun x => some (Obj.cells x t (0, 0))) ?_)
  clear h h8
  obtain ⟨l⟩ := cs
  match l, hs with
  | [x0, x1, x2, x3, x4, x5, x6, x7], _ => simp only [List.setIfInBounds_toArray, List.set_cons_zero, List.set_cons_succ]
theorem blk_far' {w : World} {g t : Nat} {cs : Array Value} (h : w.heap[g]? = some (.cells cs t (0, 0))) {k j : Nat} (hp : g ≠ k) (u : Value) : (w.setCell ⟨k, j, none⟩ u).heap[g]? = some (.cells cs t (0, 0)) := blk_far h hp u
namespace Stp
variable {w0 w W : World} {g t : Nat} {cs : Array Value}
theorem start (hb : W.heap[g]? = some (.cells cs t (0, 0))) (hB : Below w0.heap.size w0 W) (hg : w0.heap.size ≤ g) : Stp w0 W g t cs W := ⟨hb, KeepBut.refl _ _ _, hB, hg, hB.size⟩
theorem alloc (h : Stp w0 w g t cs W) (o : Obj) : Stp w0 w g t cs (W.alloc o) := ⟨blk_alloc h.blk o, keep_alloc h.keep o, below_alloc h.bel o, h.ge, h.le⟩
theorem drew (h : Stp w0 w g t cs W) : Stp w0 w g t cs W.drew := ⟨h.blk, keep_drew h.keep, h.bel.drew, h.ge, h.le⟩
theorem drewN (h : Stp w0 w g t cs W) (n : Nat) : Stp w0 w g t cs (W.drewN n) := ⟨h.blk, keep_drewN h.keep n, pw_below_drewN h.bel n, h.ge, h.le⟩
theorem lt (h : Stp w0 w g t cs W) : g < W.heap.size := blk_lt h.blk
theorem size (h : Stp w0 w g t cs W) : w.heap.size ≤ W.heap.size := h.keep.1
/-- A store into a block that is new since the call began. -/
theorem far (h : Stp w0 w g t cs W) {p : Addr} (hp : w.heap.size ≤ p.block) (hne : g ≠ p.block) (u : Value) : Stp w0 w g t cs (W.setCell p u) :=
  ⟨blk_far h.blk hne u, keep_far h.keep hp u, h.bel.setCell (Nat.le_trans h.le hp) u, h.ge, h.le⟩
theorem far' (h : Stp w0 w g t cs W) {k j : Nat} (hp : w.heap.size ≤ k) (hne : g ≠ k) (u : Value) : Stp w0 w g t cs (W.setCell ⟨k, j, none⟩ u) := h.far hp hne u
/-- A store into the state. -/
theorem set (h : Stp w0 w g t cs W) (i : Nat) (u : Value) : Stp w0 w g t (cs.setIfInBounds i u) (W.setCell ⟨g, i, none⟩ u) :=
  ⟨blk_set h.blk i u, h.keep.set_ i u, h.bel.setCell h.ge u, h.ge, h.le⟩
theorem grown (h : Stp w0 w g t cs W) {W2 : World} {row : Option Nat} (hg : W.grownBy W2 row) (hr : ∀ k, row = some k → w.heap.size ≤ k) (hgw : g < w.heap.size) : Stp w0 w g t cs W2 :=
  ⟨blk_grown h.blk hg (fun e => by have := hr g e.symm; omega), h.keep.trans (KeepBut.of_grown hg g) (by
    cases row with
    | none => exact .inl rfl
    | some k => exact .inr ⟨k, rfl, hr k rfl⟩), h.bel.grown hg h.bel.size (fun k e => Nat.le_trans h.le (hr k e)), h.ge, h.le⟩
/-- A call that was handed the state. -/
theorem call (h : Stp w0 w g t cs W) {W2 : World} {cs2 : Array Value} (h2 : Stp w0 W g t cs2 W2) : Stp w0 w g t cs2 W2 := ⟨h2.blk, h.keep.trans h2.keep (.inl rfl), h2.bel, h.ge, h.le⟩
/-- A call that knows nothing of the state. -/
theorem below (h : Stp w0 w g t cs W) {W2 : World} (h2 : Below W.heap.size W W2) : Stp w0 w g t cs W2 := ⟨blk_below h.blk h2, h.keep.trans (KeepBut.of_below h2 g none) (.inl rfl), below_weaken h.bel h.bel.size h2, h.ge, h.le⟩
theorem cell (h : Stp w0 w g t cs W) (i : Nat) : W.cell? ⟨g, i, none⟩ = cs[i]? := blk_cell h.blk i
theorem frozen (h : Stp w0 w g t cs W) (i : Nat) : W.frozen? ⟨g, i, none⟩ = false := blk_frozen h.blk i
theorem cast (h : Stp w0 w g t cs W) {cs' : Array Value} (e : cs = cs') : Stp w0 w g t cs' W := e ▸ h
theorem other (h : Stp w0 w g t cs W) {k : Nat} {o : Obj} (hb : w.heap[k]? = some o) (hk : k ≠ g) : W.heap[k]? = some o := (h.keep.2 k (blk_lt hb) hk (by simp)).trans hb
theorem again (h : Stp w0 w g t cs W) : Stp w0 W g t cs W := ⟨h.blk, KeepBut.refl _ _ _, h.bel, h.ge, h.bel.size⟩
/-- What was read in w0 reads so still. -/
theorem old (h : Stp w0 w g t cs W) {a : Addr} {v : Value} (hc : w0.cell? a = some v) : W.cell? a = some v := (h.bel.cell (World.block_lt_of_cell? _ _ hc)).trans hc
end Stp
/-- A row of the call's own while a call that may write block g alone has run: its blocks are new since an elder world of size B, g lay before. -/
theorem R_keepBut {α : Type} {d : Kd α} {e B : Nat} {W W2 : World} {g : Nat} {v : Value} {xs : List α} (h : d.R e W B (fun _ => True) v xs) (hk : KeepBut W W2 g none) (hg : g < B) : d.R e W2 B (fun _ => True) v xs :=
  Kd.R_mono (Kd.R_keep (Kd.R_bound h) hk (fun k hk => by have := hk.2.1; omega)) (fun _ _ => trivial)
theorem R_farB {α : Type} {d : Kd α} {e B : Nat} {W : World} {v : Value} {xs : List α} (h : d.R e W B (fun _ => True) v xs) {k j : Nat} (hk : k < B) (u : Value) : d.R e (W.setCell ⟨k, j, none⟩ u) B (fun _ => True) v xs :=
  Kd.R_mono (Kd.R_far (p := ⟨k, j, none⟩) (Kd.R_bound h) (fun q hq => by have := hq.2.1; show q ≠ k; omega) u) (fun _ _ => trivial)
/-- A row whose blocks are new since B, another row of that kind being one that was made before W. -/
theorem R_apart {α β : Type} {d : Kd α} {d' : Kd β} {e e' B B' : Nat} {W W2 : World} {v u : Value} {xs : List α} {ys : List β} (h : d.R e W2 W.heap.size (fun _ => True) v xs) (hu : d'.R e' W B' (fun _ => True) u ys) (hB : B ≤ W.heap.size) : d.R e W2 B (fun k => some k ≠ u.ownBlock) v xs :=
  Kd.R_lower (Kd.R_mono (Kd.R_newR h hu) (fun _ hk => hk.2)) hB
end Go.Proofs.YtkpnfejfbmandaaDoor.Px
/- Contract of lex.keywords. -/
namespace Go.Proofs.YtkpnfejfbmandaaDoor.Px
open Go.RowKit Go.Proofs.YtkpnfejfbmandaaDoorW.PrintWords Go.Proofs.YtkpnfejfbmandaaDoorW.PrintLast Go.Proofs.YtkpnfejfbmandaaDoorW.PrintMore
open Go.Maps (Keyed)
set_option linter.unusedVariables false
set_option linter.unusedSimpArgs false
/-- 'T{k: v}' at the operation: as wpList_mapUpdate_own, for the insert of a literal. -/
theorem wpList_insert_own {H : Type} {P : Program} (w : World) {ops : Array Oper} {rest : List Oper} {o : Oper} {a : Act} {Q : Exit → Act → World → Prop}
    (hg : o.guard = none) (m x v : Operand) (t : TypeId) (hop : o.op = Op.insert t m x v)
    (k e : TypeId) (K : Keyed P k) (ht : P.underlying t = some (.map k e)) (R : Value → Option (DataW H × List MemPlace)) (b n : Nat) (D : DataW H)
    (hm : a.eval m = .map (some b)) (hown : w.ownsMap P k R b n D) (hn : n < maxLen) (key val : Value) (kl : Lit) (hx : a.eval x = key) (hv : a.eval v = val) (hkey : keyOf P k key = some kl)
    (d : DataW H) (ps : List MemPlace) (hval : R val = some (d, ps))
    (hK : ∀ w', w'.ownsMap P k R b (n + 1) (D.put kl d) → w.grownBy w' (some b) → wpList P ops Q rest (a.put o.dst undef) w') :
    wpList P ops Q (o :: rest) a w := by
  refine wpList_plain hg fun K' hK' => ?_
  obtain ⟨w', hrun, r1, r2⟩ := hown.update K ht hn hkey hval
  unfold Oper.wp
  simp [execOp, hop, hm, hx, hv, hrun, Result.andThen]
  exact hK' _ _ (hK w' r1 r2)
def kwList : List (List UInt8 × Int) := [([99, 97, 108, 108], 4), ([100, 101, 102, 105, 110, 101], 6), ([101, 108, 115, 101], 7), ([101, 110, 100], 8), ([102, 108, 117, 115, 104], 5), ([105, 102], 2), ([114, 97, 110, 103, 101], 3)]
def kwD : DataW Unit := .map (kwList.map fun p => (.string p.1, .lit (.int .i64 p.2)))
def kwD0 : DataW Unit := ((((((((DataW.map []).put (.string [105, 102]) (.lit (.int .i64 2))).put (.string [114, 97, 110, 103, 101]) (.lit (.int .i64 3))).put (.string [99, 97, 108, 108]) (.lit (.int .i64 4))).put (.string [102, 108, 117, 115, 104]) (.lit (.int .i64 5))).put (.string [100, 101, 102, 105, 110, 101]) (.lit (.int .i64 6))).put (.string [101, 108, 115, 101]) (.lit (.int .i64 7))).put (.string [101, 110, 100]) (.lit (.int .i64 8)))
theorem kwD_eq : kwD0 = kwD := by rfl
theorem law9 : Keyed Tryd.prog 9 := Maps.string_keyed Tryd.underlying9
theorem kwKey (l : List UInt8) (h : l.length ≤ 100) : keyOf Tryd.prog 9 (.string ⟨l.toArray⟩) = some (.string l) := by
  have := Go.WideMaps.keyOf_string_mk (s := ⟨l.toArray⟩) Tryd.underlying9 (by unfold maxLen; show l.toArray.size ≤ _; simp; omega)
  simpa using this
set_option maxHeartbeats 1000000 in
theorem keywords_any (w : World) : Calls Tryd.prog 71 #[] w fun e w' => e = .returned (.map (some w.heap.size)) ∧ w'.ownsMap Tryd.prog 9 (plainElem (H := Unit) Tryd.prog 3) w.heap.size 7 kwD ∧ Below w.heap.size w w' := by
  have hmm := @run_makeMap Tryd.prog
  have hB0 := Aside0.mk ((Below.refl w.heap.size w).alloc (Nat.le_refl _) (.map #[] 0))
  have hO0 := Aside0.mk (World.ownsMap_made w Tryd.prog 9 (plainElem (H := Unit) Tryd.prog 3))
  go_enter Tryd.func71, Tryd.ntmps71
  go_wp2_with (first | (refine wpList_insert_own _ rfl (.tmp 1) (.const (.string ⟨#[105, 102]⟩)) (.const (.int .i64 2)) 127 rfl 9 3 law9 Tryd.underlying127 _ w.heap.size 0 _ rfl hO0.out (by unfold maxLen; omega) _ _ _ rfl rfl (kwKey [105, 102] (by decide)) _ [] (plainElem_int Tryd.underlying3 (by decide)) ?_; intro w1 q1 g1; have hB1 := Aside0.mk (hB0.out.grown g1 hB0.out.size (fun k e => by cases e; exact Nat.le_refl _)); have hO1 := Aside0.mk q1; clear q1 g1 hO0 hB0) | (refine wpList_insert_own _ rfl (.tmp 1) (.const (.string ⟨#[114, 97, 110, 103, 101]⟩)) (.const (.int .i64 3)) 127 rfl 9 3 law9 Tryd.underlying127 _ w.heap.size 1 _ rfl hO1.out (by unfold maxLen; omega) _ _ _ rfl rfl (kwKey [114, 97, 110, 103, 101] (by decide)) _ [] (plainElem_int Tryd.underlying3 (by decide)) ?_; intro w2 q2 g2; have hB2 := Aside0.mk (hB1.out.grown g2 hB1.out.size (fun k e => by cases e; exact Nat.le_refl _)); have hO2 := Aside0.mk q2; clear q2 g2 hO1 hB1) | (refine wpList_insert_own _ rfl (.tmp 1) (.const (.string ⟨#[99, 97, 108, 108]⟩)) (.const (.int .i64 4)) 127 rfl 9 3 law9 Tryd.underlying127 _ w.heap.size 2 _ rfl hO2.out (by unfold maxLen; omega) _ _ _ rfl rfl (kwKey [99, 97, 108, 108] (by decide)) _ [] (plainElem_int Tryd.underlying3 (by decide)) ?_; intro w3 q3 g3; have hB3 := Aside0.mk (hB2.out.grown g3 hB2.out.size (fun k e => by cases e; exact Nat.le_refl _)); have hO3 := Aside0.mk q3; clear q3 g3 hO2 hB2) | (refine wpList_insert_own _ rfl (.tmp 1) (.const (.string ⟨#[102, 108, 117, 115, 104]⟩)) (.const (.int .i64 5)) 127 rfl 9 3 law9 Tryd.underlying127 _ w.heap.size 3 _ rfl hO3.out (by unfold maxLen; omega) _ _ _ rfl rfl (kwKey [102, 108, 117, 115, 104] (by decide)) _ [] (plainElem_int Tryd.underlying3 (by decide)) ?_; intro w4 q4 g4; have hB4 := Aside0.mk (hB3.out.grown g4 hB3.out.size (fun k e => by cases e; exact Nat.le_refl _)); have hO4 := Aside0.mk q4; clear q4 g4 hO3 hB3) | (refine wpList_insert_own _ rfl (.tmp 1) (.const (.string ⟨#[100, 101, 102, 105, 110, 101]⟩)) (.const (.int .i64 6)) 127 rfl 9 3 law9 Tryd.underlying127 _ w.heap.size 4 _ rfl hO4.out (by unfold maxLen; omega) _ _ _ rfl rfl (kwKey [100, 101, 102, 105, 110, 101] (by decide)) _ [] (plainElem_int Tryd.underlying3 (by decide)) ?_; intro w5 q5 g5; have hB5 := Aside0.mk (hB4.out.grown g5 hB4.out.size (fun k e => by cases e; exact Nat.le_refl _)); have hO5 := Aside0.mk q5; clear q5 g5 hO4 hB4) | (refine wpList_insert_own _ rfl (.tmp 1) (.const (.string ⟨#[101, 108, 115, 101]⟩)) (.const (.int .i64 7)) 127 rfl 9 3 law9 Tryd.underlying127 _ w.heap.size 5 _ rfl hO5.out (by unfold maxLen; omega) _ _ _ rfl rfl (kwKey [101, 108, 115, 101] (by decide)) _ [] (plainElem_int Tryd.underlying3 (by decide)) ?_; intro w6 q6 g6; have hB6 := Aside0.mk (hB5.out.grown g6 hB5.out.size (fun k e => by cases e; exact Nat.le_refl _)); have hO6 := Aside0.mk q6; clear q6 g6 hO5 hB5) | (refine wpList_insert_own _ rfl (.tmp 1) (.const (.string ⟨#[101, 110, 100]⟩)) (.const (.int .i64 8)) 127 rfl 9 3 law9 Tryd.underlying127 _ w.heap.size 6 _ rfl hO6.out (by unfold maxLen; omega) _ _ _ rfl rfl (kwKey [101, 110, 100] (by decide)) _ [] (plainElem_int Tryd.underlying3 (by decide)) ?_; intro w7 q7 g7; have hB7 := Aside0.mk (hB6.out.grown g7 hB6.out.size (fun k e => by cases e; exact Nat.le_refl _)); have hO7 := Aside0.mk q7; clear q7 g7 hO6 hB6))
  go_ret
  exact ⟨rfl, by rw [← kwD_eq]; exact hO7.out, hB7.out⟩
theorem keyOf_string_inv {P : Program} {k : TypeId} (hk : P.underlying k = some .string) {key : Value} {kl : Lit} (h : keyOf P k key = some kl) : ∃ x : ByteArray, key = .string x ∧ kl = .string x.data.toList := by
  cases key <;> simp [keyOf, hk, mapKey] at h
  exact ⟨_, rfl, h.2.symm⟩
theorem kw_mem {l : List UInt8} (h : Maps.has kwD (.string l) = true) : ∃ c, (l, c) ∈ kwList := by
  unfold kwD at h
  rw [Maps.has_eq, List.any_map, List.any_eq_true] at h
  obtain ⟨p, hp, he⟩ := h
  have : p.1 = l := by simpa [Lit.sameKey] using he
  subst this
  exact ⟨p.2, hp⟩
theorem kw_has {l : List UInt8} {c : Int} (h : (l, c) ∈ kwList) : Maps.has kwD (.string l) = true := by
  unfold kwD
  rw [Maps.has_eq, List.any_map, List.any_eq_true]
  exact ⟨_, h, by simp [Lit.sameKey]⟩
theorem kw_at {l : List UInt8} {c : Int} (h : (l, c) ∈ kwList) (zd : DataW Unit) : kwD.atKey (.string l) zd = .lit (.int .i64 c) := by
  simp only [kwList, List.mem_cons, Prod.mk.injEq, List.not_mem_nil, or_false] at h
  rcases h with ⟨rfl, rfl⟩ | ⟨rfl, rfl⟩ | ⟨rfl, rfl⟩ | ⟨rfl, rfl⟩ | ⟨rfl, rfl⟩ | ⟨rfl, rfl⟩ | ⟨rfl, rfl⟩ <;> rfl
set_option maxRecDepth 100000 in
/-- The step of a range over the map of keywords. -/
theorem wpList_next_kw {w : World} {ops : Array Oper} {rest : List Oper} {o : Oper} {a : Act} {Q : Exit → Act → World → Prop} (hg : o.guard = none) (it : Operand) (hop : o.op = Op.next it false)
    (b r n : Nat) (left : Lit → Bool) (cnt : Nat) (hit : a.eval it = .pointer (some ⟨r, 0, none⟩)) (h : w.ranges Tryd.prog 9 (plainElem (H := Unit) Tryd.prog 3) b r n kwD left cnt) (hleft : ∀ kl, left kl = true → Maps.has kwD kl = true)
    (hDone : (∀ kl, left kl = false) → wpList Tryd.prog ops Q rest (a.put o.dst (.tuple #[.bool false])) w)
    (hMore : ∀ (s : List UInt8) (c : Int) (w' : World) (cnt' : Nat), (s, c) ∈ kwList → left (.string s) = true → w'.ranges Tryd.prog 9 (plainElem (H := Unit) Tryd.prog 3) b r n kwD (fun z => left z && !z.sameKey (.string s)) cnt' → cnt' < cnt →
      w.grownBy w' (some r) → w'.heap.size = w.heap.size → (Instr.entry (.pointer (some ⟨r, 0, none⟩))).run Tryd.prog w' = .ok (.tuple #[.string ⟨s.toArray⟩, .int .i64 c]) w' → wpList Tryd.prog ops Q rest (a.put o.dst (.tuple #[.bool true, .string ⟨s.toArray⟩, .int .i64 c])) w') :
    wpList Tryd.prog ops Q (o :: rest) a w :=
  wpList_next_ranges w hg it hop 9 law9 (plainElem Tryd.prog 3) Value.string (Value.int .i64) (fun key kl hkey => by obtain ⟨x, rfl, _⟩ := keyOf_string_inv Tryd.underlying9 hkey; exact ⟨x, rfl⟩) (fun v y hv => by obtain ⟨c, rfl, _⟩ := plainElem_int_inv Tryd.underlying3 hv; exact ⟨c, rfl⟩)
    b r n kwD left cnt hit h (fun _ hl => hDone hl) (fun x c kl y w' cnt' hkey hlk hv hat hrg hlt hgr hsz hen => by
      obtain ⟨x', ex, rfl⟩ := keyOf_string_inv Tryd.underlying9 hkey
      cases ex
      obtain ⟨c', ec, rfl, hwc⟩ := plainElem_int_inv Tryd.underlying3 hv
      cases ec
      obtain ⟨c2, hm⟩ := kw_mem (hleft _ hlk)
      have e1 := hat (.lit (.int .i64 0))
      rw [kw_at hm] at e1
      have e2 : c2 = c := by injection e1 with e1; injection e1
      subst e2
      have hx : (⟨x.data.toList.toArray⟩ : ByteArray) = x := by cases x; simp
      have hM := hMore x.data.toList c2 w' cnt' hm hlk hrg hlt hgr hsz (by rw [hx]; exact hen)
      rw [hx] at hM
      exact hM)
def kwOf (k : Int) : Option (List UInt8) := (kwList.find? (fun p => p.2 == k)).map (·.1)
theorem kwOf_mem {k : Int} {s : List UInt8} (h : kwOf k = some s) : (s, k) ∈ kwList := by
  unfold kwOf at h
  obtain ⟨p, hp, rfl⟩ := Option.map_eq_some_iff.1 h
  have h1 := List.mem_of_find?_eq_some hp
  have h2 := List.find?_some hp
  simp only [beq_iff_eq] at h2
  rw [← h2]
  exact h1
theorem kwOf_of {k : Int} {s : List UInt8} (h : (s, k) ∈ kwList) : kwOf k = some s := by
  simp only [kwList, List.mem_cons, Prod.mk.injEq, List.not_mem_nil, or_false] at h
  rcases h with ⟨rfl, rfl⟩ | ⟨rfl, rfl⟩ | ⟨rfl, rfl⟩ | ⟨rfl, rfl⟩ | ⟨rfl, rfl⟩ | ⟨rfl, rfl⟩ | ⟨rfl, rfl⟩ <;> rfl
/-- What has been collected of the keywords of kind K, when 'left' are still to come. -/
def kwGot (K : Int) (left : Lit → Bool) : List ByteArray := match kwOf K with | none => [] | some s => if left (.string s) = true then [] else [⟨s.toArray⟩]
set_option maxRecDepth 100000 in
theorem kwGot_start (K : Int) : kwGot K (Maps.has kwD) = [] := by
  unfold kwGot
  split
  · rfl
  · rename_i s h
    rw [if_pos (kw_has (kwOf_mem h))]
set_option maxRecDepth 100000 in
theorem kwGot_end (K : Int) {left : Lit → Bool} (h : ∀ kl, left kl = false) : kwGot K left = (match kwOf K with | none => [] | some s => [⟨s.toArray⟩]) := by
  unfold kwGot
  split
  · rfl
  · rename_i s e; rw [h]; rfl
set_option maxRecDepth 100000 in
theorem kwGot_hit {K : Int} {left : Lit → Bool} {s : List UInt8} (h : (s, K) ∈ kwList) (hl : left (.string s) = true) : kwGot K left = [] ∧ kwGot K (fun z => left z && !z.sameKey (.string s)) = [⟨s.toArray⟩] := by
  unfold kwGot
  rw [kwOf_of h]
  simp [hl, Lit.sameKey]
set_option maxRecDepth 100000 in
theorem kwGot_miss {K c : Int} {left : Lit → Bool} {s : List UInt8} (h : (s, c) ∈ kwList) (hc : c ≠ K) : kwGot K (fun z => left z && !z.sameKey (.string s)) = kwGot K left := by
  unfold kwGot
  split
  · rfl
  · rename_i s' e
    have hm := kwOf_mem e
    have hne : s' ≠ s := by
      rintro rfl
      have e1 := kwOf_of h
      have := kw_at h (.lit (.int .i64 0))
      rw [kw_at hm] at this
      injection this with this
      injection this with _ this
      exact hc this.symm
    have : (Lit.string s').sameKey (.string s) = false := by simp [Lit.sameKey, hne]
    simp [this]
end Go.Proofs.YtkpnfejfbmandaaDoor.Px
/- What lex.Lex tells, over lists of bytes, and the plain laws on it. -/
namespace Go.Proofs.YtkpnfejfbmandaaDoor.Px
open Go.RowKit Go.Proofs.YtkpnfejfbmandaaDoorW.PrintWords Go.Proofs.YtkpnfejfbmandaaDoorW.PrintLast Go.Proofs.YtkpnfejfbmandaaDoorW.PrintMore
set_option linter.unusedVariables false
set_option linter.unusedSimpArgs false
/-- A letter; a name. -/
def letB (b : UInt8) : Bool := (decide (97 ≤ b.toNat) && decide (b.toNat ≤ 122)) || (decide (65 ≤ b.toNat) && decide (b.toNat ≤ 90))
def digB (b : UInt8) : Bool := decide (48 ≤ b.toNat) && decide (b.toNat ≤ 57)
def nmGo : Bool → List UInt8 → Bool
  | _, [] => true
  | first, b :: r => (letB b || (!first && (b == 95 || digB b))) && nmGo false r
def nameL (s : List UInt8) : Bool := !s.isEmpty && (decide (s.length ≤ 32) && nmGo true s)
/-- A path. -/
def pathL (s : List UInt8) : Bool := s.isEmpty || (decide ((Lib.split s [46]).length ≤ 8) && (Lib.split s [46]).all nameL)
/-- The words between spaces. -/
def wordCons (cur : List UInt8) (l : List (List UInt8)) : List (List UInt8) := if cur = [] then l else cur :: l
def fieldsG : List UInt8 → List UInt8 → List (List UInt8)
  | [], cur => wordCons cur []
  | b :: r, cur => if b = 32 then wordCons cur (fieldsG r []) else fieldsG r (cur ++ [b])
/-- A token without its offset: kind, name, path, whether it has a path. -/
abbrev T4 := Int × List UInt8 × List UInt8 × Bool
def zeroT : T4 := (0, [], [], false)
def kwKind (w : List UInt8) : Option Int := (kwList.find? (fun p => p.1 == w)).map (·.2)
def named (k : Int) : Bool := k == 4 || k == 6
def leastOf (k : Int) : Nat := if k = 1 ∨ k = 2 ∨ k = 3 then 1 else 0
def mostOf (k : Int) : Nat := if k = 1 ∨ k = 2 ∨ k = 3 ∨ k = 4 then 1 else 0
def dirE (k : Int) (s p : List UInt8) (h : Bool) : Int × T4 := if pathL p = true ∧ (named k = true → nameL s = true) then (0, k, s, p, h) else (11, zeroT)
def dirP (k : Int) (s : List UInt8) (ws : List (List UInt8)) : Int × T4 :=
  if ws.length < leastOf k ∨ mostOf k < ws.length then (5, zeroT)
  else match ws with
    | [] => dirE k s [] false
    | w :: _ => if Lib.hasPrefix w [46] = true then dirE k s (w.drop 1) true else (5, zeroT)
def dirK (k : Int) (ws : List (List UInt8)) : Int × T4 :=
  if named k = true then match ws with
    | [] => (5, zeroT)
    | w :: r => if Lib.hasPrefix w [46] = true then (5, zeroT) else dirP k w r
  else dirP k [] ws
/-- lex.directive. -/
def dirF (ws : List (List UInt8)) : Int × T4 :=
  match ws with
  | [] => (5, zeroT)
  | w :: r => match kwKind w with
    | some k => dirK k r
    | none => if Lib.hasPrefix w [46] = true then dirK 1 (w :: r) else (5, zeroT)
/-- A token with its offset. -/
abbrev T5 := Nat × T4
def txtT (p : Nat) (s : List UInt8) : List T5 := if s = [] then [] else [(p, 0, s, [], false)]
def lexS (p : Nat) (s : List UInt8) : Except (Nat × Int) (List T5) :=
  if h1 : Lib.index s [123, 123] < 0 then .ok (txtT p s)
  else if h2 : Lib.index (s.drop ((Lib.index s [123, 123]).toNat + 2)) [125, 125] < 0 then .error (p + (Lib.index s [123, 123]).toNat, 7)
  else
    let i := (Lib.index s [123, 123]).toNat
    let j := (Lib.index (s.drop (i + 2)) [125, 125]).toNat
    let d := dirF (fieldsG ((s.drop (i + 2)).take j) [])
    if d.1 = 0 then
      match lexS (p + i + j + 4) ((s.drop (i + 2)).drop (j + 2)) with
      | .error e => .error e
      | .ok l => .ok (txtT p (s.take i) ++ (p + i, d.2) :: l)
    else .error (p + i, d.1)
termination_by s.length
decreasing_by
  have r1 := Lib.index_room s [123, 123] (by omega)
  simp only [List.length_cons, List.length_nil] at r1
  simp only [List.length_drop]
  omega
def noPair (c : UInt8) : List UInt8 → Prop
  | a :: b :: r => ¬ (a = c ∧ b = c) ∧ noPair c (b :: r)
  | _ => True
theorem noPair_tail {c a : UInt8} : ∀ {s : List UInt8}, noPair c (a :: s) → noPair c s
  | [], _ => trivial
  | _ :: _, h => h.2
theorem pre2 (c a : UInt8) (s : List UInt8) : List.isPrefixOf [c, c] (a :: s) = true ↔ a = c ∧ s.head? = some c := by
  cases s with
  | nil =>
    constructor
    · intro h; simp only [List.isPrefixOf, Bool.and_false] at h; cases h
    · intro h; cases h.2
  | cons b r =>
    simp only [List.isPrefixOf, Bool.and_true, Bool.and_eq_true, beq_iff_eq, List.head?_cons, Option.some.injEq]
    exact ⟨fun h => ⟨h.1.symm, h.2.symm⟩, fun h => ⟨h.1.symm, h.2.symm⟩⟩
theorem idx_none {c : UInt8} : ∀ {s : List UInt8}, noPair c s → Lib.index s [c, c] = -1
  | [], _ => rfl
  | a :: s, h => by
    have ih := idx_none (noPair_tail h)
    have hp : ¬ List.isPrefixOf [c, c] (a :: s) = true := fun e => by
      obtain ⟨h1, h2⟩ := (pre2 c a s).1 e
      cases s with
      | nil => cases h2
      | cons b r => simp only [List.head?_cons, Option.some.injEq] at h2; exact h.1 ⟨h1, h2⟩
    unfold Lib.index
    rw [if_neg hp, ih]
    rfl
theorem idx_at {c : UInt8} (r : List UInt8) : ∀ {t : List UInt8}, noPair c (t ++ [c]) → Lib.index (t ++ c :: c :: r) [c, c] = t.length
  | [], _ => by
    show Lib.index (c :: c :: r) [c, c] = 0
    unfold Lib.index
    rw [if_pos ((pre2 c c _).2 ⟨rfl, rfl⟩)]
  | a :: t, h => by
    have ih := idx_at r (noPair_tail (s := t ++ [c]) h)
    have hp : ¬ List.isPrefixOf [c, c] (a :: (t ++ c :: c :: r)) = true := fun e => by
      obtain ⟨h1, h2⟩ := (pre2 c a _).1 e
      cases t with
      | nil => exact h.1 ⟨h1, rfl⟩
      | cons b t => simp only [List.cons_append, List.head?_cons, Option.some.injEq] at h2; exact h.1 ⟨h1, h2⟩
    show Lib.index (a :: (t ++ c :: c :: r)) [c, c] = _
    unfold Lib.index
    rw [if_neg hp, ih]
    have : ((t.length : Int) == -1) = false := by rw [beq_eq_false_iff_ne]; omega
    rw [this]
    simp
theorem idx_cases (c : UInt8) : ∀ (s : List UInt8), noPair c s ∨ ∃ t r, s = t ++ c :: c :: r ∧ noPair c (t ++ [c])
  | [] => .inl trivial
  | [a] => .inl trivial
  | a :: b :: s => by
    by_cases hp : a = c ∧ b = c
    · exact .inr ⟨[], s, by rw [hp.1, hp.2]; rfl, trivial⟩
    · rcases idx_cases c (b :: s) with h | ⟨t, r, e, h⟩
      · exact .inl ⟨hp, h⟩
      · refine .inr ⟨a :: t, r, by rw [e]; rfl, ?_⟩
        cases t with
        | nil =>
          simp only [List.nil_append, List.cons.injEq] at e
          exact ⟨fun x => hp ⟨x.1, e.1⟩, trivial⟩
        | cons d t =>
          simp only [List.cons_append, List.cons.injEq] at e
          exact ⟨fun x => hp ⟨x.1, by rw [e.1]; exact x.2⟩, h⟩
theorem lexS_text {p : Nat} {s : List UInt8} (h : noPair 123 s) : lexS p s = .ok (txtT p s) := by
  rw [lexS, dif_pos (by rw [idx_none h]; decide)]
theorem lexS_open {p : Nat} {t r : List UInt8} (h : noPair 123 (t ++ [123])) (hr : noPair 125 r) : lexS p (t ++ 123 :: 123 :: r) = .error (p + t.length, 7) := by
  have e := idx_at r h
  have hd : (t ++ 123 :: 123 :: r).drop (t.length + 2) = r := by rw [← List.drop_drop, List.drop_left]; rfl
  rw [lexS, dif_neg (by rw [e]; omega), e, Int.toNat_natCast, hd, dif_pos (by rw [idx_none hr]; decide)]
theorem lexS_dir {p : Nat} {t u r : List UInt8} (h : noPair 123 (t ++ [123])) (hu : noPair 125 (u ++ [125])) :
    lexS p (t ++ 123 :: 123 :: (u ++ 125 :: 125 :: r)) =
      if (dirF (fieldsG u [])).1 = 0 then
        match lexS (p + t.length + u.length + 4) r with
        | .error e => .error e
        | .ok l => .ok (txtT p t ++ (p + t.length, (dirF (fieldsG u [])).2) :: l)
      else .error (p + t.length, (dirF (fieldsG u [])).1) := by
  have e := idx_at (u ++ 125 :: 125 :: r) h
  have e2 := idx_at r hu
  have hd : (t ++ 123 :: 123 :: (u ++ 125 :: 125 :: r)).drop (t.length + 2) = u ++ 125 :: 125 :: r := by rw [← List.drop_drop, List.drop_left]; rfl
  have hd2 : (u ++ 125 :: 125 :: r).drop (u.length + 2) = r := by rw [← List.drop_drop, List.drop_left]; rfl
  have ht : (t ++ 123 :: 123 :: (u ++ 125 :: 125 :: r)).take t.length = t := List.take_left
  have ht2 : (u ++ 125 :: 125 :: r).take u.length = u := List.take_left
  rw [lexS, dif_neg (by rw [e]; omega), e, Int.toNat_natCast, hd, dif_neg (by rw [e2]; omega)]
  simp only [Int.toNat_natCast]
  rw [hd, e2]
  simp only [Int.toNat_natCast]
  rw [hd2, ht, ht2]
/-- The three ways that a source goes on. -/
inductive Way : List UInt8 → Prop
  | text (s) (h : noPair 123 s) : Way s
  | open_ (t r) (h : noPair 123 (t ++ [123])) (hr : noPair 125 r) : Way (t ++ 123 :: 123 :: r)
  | dir (t u r) (h : noPair 123 (t ++ [123])) (hu : noPair 125 (u ++ [125])) : Way (t ++ 123 :: 123 :: (u ++ 125 :: 125 :: r))
theorem way (s : List UInt8) : Way s := by
  rcases idx_cases 123 s with h | ⟨t, r, rfl, h⟩
  · exact .text s h
  · rcases idx_cases 125 r with hr | ⟨u, r, rfl, hu⟩
    · exact .open_ t r h hr
    · exact .dir t u r h hu
/-- What Lex returns. -/
def tokS (x : T5) : S76 := ⟨x.2.1, x.1, ⟨x.2.2.1.toArray⟩, ⟨x.2.2.2.1.toArray⟩, x.2.2.2.2⟩
def lexR (s : ByteArray) : Except (Nat × Int) (List T5) → List S76 × Int × Int
  | .ok l => (l.map tokS, s.size, 0)
  | .error (p, e) => ([], p, e)
def lexF (s : ByteArray) : List S76 × Int × Int := if (s.size : Int) > 65536 then ([], 0, 6) else lexR s (lexS 0 s.data.toList)
end Go.Proofs.YtkpnfejfbmandaaDoor.Px
/- strings.FieldsFunc at spaces tells the words of La. -/
namespace Go.Proofs.YtkpnfejfbmandaaDoor.Px
open Go.RowKit Go.Proofs.YtkpnfejfbmandaaDoorW.PrintWords Go.Proofs.YtkpnfejfbmandaaDoorW.PrintLast Go.Proofs.YtkpnfejfbmandaaDoorW.PrintMore
set_option linter.unusedVariables false
set_option linter.unusedSimpArgs false
def isSp (x : Nat) : Bool := (x : Int) == 32
theorem get_list (s : ByteArray) (i : Nat) (h : i < s.size) : s.data.toList[i]? = some (s.get! i) := by
  have e : s.get! i = s[i]'h := by
    simp [ByteArray.get!, getElem!_pos, h]
    rfl
  rw [e]
  have hl : i < s.data.toList.length := by rw [data_length]; exact h
  rw [List.getElem?_eq_getElem hl]
  simp [ByteArray.getElem_eq_getElem_data]
theorem dec_high (s : ByteArray) (pos : Nat) (h : pos < s.size) (ha : 128 ≤ (s.get! pos).toNat) :
    128 ≤ (Utf8.decode s pos).1 ∧ 1 ≤ (Utf8.decode s pos).2 ∧ pos + (Utf8.decode s pos).2 ≤ s.size ∧ ∀ j, j < (Utf8.decode s pos).2 → 128 ≤ (s.get! (pos + j)).toNat := by
  rw [Lib.decode_at]
  unfold Lib.decodeN
  rw [if_neg (by omega)]
  have one : ∀ j, j < 1 → 128 ≤ (s.get! (pos + j)).toNat := fun j hj => by
    obtain rfl : j = 0 := by omega
    exact ha
  repeat' split
  all_goals refine ⟨by first | omega | (show 128 ≤ 65533; omega), by first | omega | (show 1 ≤ 1; omega), by first | omega | (show pos + 1 ≤ s.size; omega), fun j hj => ?_⟩
  all_goals first
    | exact one j hj
    | (have hj2 : j = 0 ∨ j = 1 ∨ j = 2 ∨ j = 3 := by
         simp only at hj
         omega
       rcases hj2 with rfl | rfl | rfl | rfl
       · exact ha
       all_goals first | (simp only at hj; omega))
theorem fieldsG_skip : ∀ (t r cur : List UInt8), (∀ b ∈ t, b ≠ 32) → fieldsG (t ++ r) cur = fieldsG r (cur ++ t)
  | [], r, cur, _ => by simp
  | b :: t, r, cur, h => by
    show fieldsG (b :: (t ++ r)) cur = _
    rw [fieldsG, if_neg (h b (by simp)), fieldsG_skip t r _ (fun c hc => h c (by simp [hc]))]; simp
def curOf (s : ByteArray) (pos : Nat) : Option Nat → List UInt8
  | none => []
  | some a => (s.extract a pos).data.toList
def endOf (s : ByteArray) (x : List (Nat × Nat) × Option Nat) : List (List UInt8) := (Lib.closeSpans s x).map fun y => (s.extract y.1 y.2).data.toList
theorem ext_split (s : ByteArray) (a b c : Nat) (h1 : a ≤ b) (h2 : b ≤ c) : (s.extract a b).data.toList ++ (s.extract b c).data.toList = (s.extract a c).data.toList := by
  rw [Lib.extract_data, Lib.extract_data, Lib.extract_data]
  rw [show c - a = (b - a) + (c - b) by omega, List.take_add, List.drop_drop, show a + (b - a) = b by omega]
theorem ext_len (s : ByteArray) (a b : Nat) (h1 : a ≤ b) (h2 : b ≤ s.size) : (s.extract a b).data.toList.length = b - a := by rw [data_length, ByteArray.size_extract]; omega
theorem spans_is (s : ByteArray) : ∀ (f pos : Nat) (st : Option Nat) (acc : List (Nat × Nat)), pos ≤ s.size → s.size ≤ pos + f → (∀ a, st = some a → a < pos) →
    endOf s (Lib.spansFromP isSp s f pos st acc) = (acc.map fun y => (s.extract y.1 y.2).data.toList) ++ fieldsG (s.data.toList.drop pos) (curOf s pos st) := by
  have fin : ∀ (pos : Nat) (st : Option Nat) (acc : List (Nat × Nat)), pos = s.size → (∀ a, st = some a → a < pos) → endOf s (acc, st) = (acc.map fun y => (s.extract y.1 y.2).data.toList) ++ fieldsG (s.data.toList.drop pos) (curOf s pos st) := by
    intro pos st acc hp hst
    rw [List.drop_eq_nil_of_le (by rw [data_length]; omega)]
    subst hp
    cases st with
    | none => simp [endOf, Lib.closeSpans, fieldsG, wordCons, curOf]
    | some a =>
      have hlt := hst a rfl
      have hne : ¬ (s.extract a s.size).data.toList = [] := fun e => by
        have := ext_len s a s.size (by omega) (Nat.le_refl _)
        rw [e] at this; simp at this; omega
      simp [endOf, Lib.closeSpans, fieldsG, wordCons, curOf, hne]
      omega
  intro f
  induction f with
  | zero =>
    intro pos st acc h1 h2 hst
    exact fin pos st acc (by omega) hst
  | succ f ih =>
    intro pos st acc h1 h2 hst
    by_cases hlt : pos < s.size
    case neg =>
      rw [Lib.spansFromP_end _ _ _ _ _ _ hlt]
      exact fin pos st acc (by omega) hst
    have hg := get_list s pos hlt
    have step : Lib.spansFromP isSp s (f + 1) pos st acc = if pos < s.size then (if isSp (Utf8.decode s pos).1 then
        (match st with
         | some a => Lib.spansFromP isSp s f (pos + (Utf8.decode s pos).2) none (acc ++ [(a, pos)])
         | none => Lib.spansFromP isSp s f (pos + (Utf8.decode s pos).2) none acc)
       else
        (match st with
         | some a => Lib.spansFromP isSp s f (pos + (Utf8.decode s pos).2) (some a) acc
         | none => Lib.spansFromP isSp s f (pos + (Utf8.decode s pos).2) (some pos) acc)) else (acc, st) := by
      cases st <;> rfl
    rw [step, if_pos hlt]
    clear step
    have hdrop : s.data.toList.drop pos = s.get! pos :: s.data.toList.drop (pos + 1) := by
      obtain ⟨hl, e⟩ := List.getElem?_eq_some_iff.1 hg
      rw [List.drop_eq_getElem_cons hl, e]
    have skip : ∀ k, 1 ≤ k → pos + k ≤ s.size → (∀ j, j < k → s.get! (pos + j) ≠ 32) → isSp (Utf8.decode s pos).1 = false → (Utf8.decode s pos).2 = k →
        endOf s (if isSp (Utf8.decode s pos).1 = true then (match st with
         | some a => Lib.spansFromP isSp s f (pos + (Utf8.decode s pos).2) none (acc ++ [(a, pos)])
         | none => Lib.spansFromP isSp s f (pos + (Utf8.decode s pos).2) none acc)
       else
        (match st with
         | some a => Lib.spansFromP isSp s f (pos + (Utf8.decode s pos).2) (some a) acc
         | none => Lib.spansFromP isSp s f (pos + (Utf8.decode s pos).2) (some pos) acc)) = (acc.map fun y => (s.extract y.1 y.2).data.toList) ++ fieldsG (s.data.toList.drop pos) (curOf s pos st) := by
      intro k hk1 hk2 hk3 hsp hw
      rw [hw, if_neg (by rw [hsp]; decide)]
      have ht : s.data.toList.drop pos = (s.extract pos (pos + k)).data.toList ++ s.data.toList.drop (pos + k) := by
        rw [Lib.extract_data, Nat.add_sub_cancel_left, ← List.drop_drop, List.take_append_drop]
      have hn : ∀ b ∈ (s.extract pos (pos + k)).data.toList, b ≠ 32 := fun b hb => by
        obtain ⟨j, hj, e⟩ := List.getElem_of_mem hb
        have hl := ext_len s pos (pos + k) (by omega) hk2
        have hj2 : j < k := by omega
        have hx : (s.extract pos (pos + k)).data.toList[j]? = some (s.get! (pos + j)) := by
          rw [Lib.extract_data, Nat.add_sub_cancel_left, List.getElem?_take, if_pos hj2, List.getElem?_drop, get_list s _ (by omega)]
        rw [List.getElem?_eq_getElem hj, e] at hx
        rw [Option.some.inj hx]
        exact hk3 j hj2
      rw [ht, fieldsG_skip _ _ _ hn]
      cases st with
      | none =>
        dsimp only
        rw [ih _ _ _ hk2 (by omega) (fun a e => by cases e; omega)]
        simp [curOf]
      | some a =>
        dsimp only
        have hlt' := hst a rfl
        rw [ih _ _ _ hk2 (by omega) (fun a' e => by cases e; omega)]
        simp only [curOf]
        rw [ext_split s a pos (pos + k) (by omega) (by omega)]
    by_cases ha : (s.get! pos).toNat < 128
    · have hdec : Utf8.decode s pos = ((s.get! pos).toNat, 1) := by
        have e : s.get! pos = s[pos]'hlt := by
          simp [ByteArray.get!, getElem!_pos, hlt]
          rfl
        rw [decode_ascii s pos hlt (by rw [← e]; exact ha), e]
      by_cases h32 : s.get! pos = 32
      · have hsp : isSp (Utf8.decode s pos).1 = true := by rw [hdec, h32]; rfl
        have hw : (Utf8.decode s pos).2 = 1 := by rw [hdec]
        rw [hw, if_pos hsp, hdrop, fieldsG, if_pos h32]
        cases st with
        | none =>
          dsimp only
          rw [ih _ _ _ (by omega) (by omega) (fun a e => by cases e)]
          simp [curOf, wordCons]
        | some a =>
          dsimp only
          have hlt' := hst a rfl
          have hne : ¬ (s.extract a pos).data.toList = [] := fun e => by
            have := ext_len s a pos (by omega) h1
            rw [e] at this; simp at this; omega
          rw [ih _ _ _ (by omega) (by omega) (fun a e => by cases e)]
          simp [curOf, wordCons, hne]
          omega
      · refine skip 1 (Nat.le_refl _) (by omega) (fun j hj => ?_) ?_ (by rw [hdec])
        · obtain rfl : j = 0 := by omega
          exact h32
        · rw [hdec]
          unfold isSp
          rw [beq_eq_false_iff_ne]
          intro e
          exact h32 (UInt8.toNat_inj.1 (by have e : ((s.get! pos).toNat : Int) = 32 := e
                                           have : (s.get! pos).toNat = 32 := by omega
                                           rw [this]; rfl))
    · obtain ⟨d1, d2, d3, d4⟩ := dec_high s pos hlt (by omega)
      refine skip _ d2 d3 (fun j hj e => ?_) ?_ rfl
      · have := d4 j hj
        rw [e] at this
        exact absurd this (by decide)
      · unfold isSp
        rw [beq_eq_false_iff_ne]; omega
theorem fields_is (s : ByteArray) : (Lib.goFieldsP isSp s).map (·.data.toList) = fieldsG s.data.toList [] := by
  have := spans_is s s.size 0 none [] (Nat.zero_le _) (by omega) (fun a e => by cases e)
  unfold Lib.goFieldsP Lib.spansOfP
  rw [List.map_map]
  unfold endOf at this
  rw [List.map_nil, List.nil_append, List.drop_zero] at this
  exact this
end Go.Proofs.YtkpnfejfbmandaaDoor.Px
