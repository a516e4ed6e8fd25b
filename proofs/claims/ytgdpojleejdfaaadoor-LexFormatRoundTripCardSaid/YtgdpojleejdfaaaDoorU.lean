/- Small lemmas on worlds, states and rows that the walks of this seat use. -/
import Derived.Test.YtgdpojleejdfaaaDoorPx0
namespace Go.Proofs.YtgdpojleejdfaaaDoor.Px
open Go.RowKit Go.Proofs.YtgdpojleejdfaaaDoorW.PrintWords Go.Proofs.YtgdpojleejdfaaaDoorW.PrintLast Go.Proofs.YtgdpojleejdfaaaDoorW.PrintMore
set_option linter.unusedVariables false
set_option linter.unusedSimpArgs false

/-- A state's block g (type t, cells cs) in the world W; since the call began in w nothing else that lay has turned. w0: an elder world, in which what the state leads to was read. -/
structure Stp (w0 w : World) (g t : Nat) (cs : Array Value) (W : World) : Prop where
  blk : W.heap[g]? = some (.cells cs t (0, 0))
  keep : KeepBut w W g none
  bel : Below w0.heap.size w0 W
  ge : w0.heap.size ≤ g
  le : w0.heap.size ≤ w.heap.size
theorem blk_new' {w : World} {o : Obj} {k : Nat} (h : w.heap.size = k) : (w.alloc o).heap[k]? = some o := h ▸ blk_new w o
theorem blk_set8 {w : World} {g t : Nat} {cs : Array Value} (h : w.heap[g]? = some (.cells cs t (0, 0))) (hs : cs.size = 8) (a b c d e f p q : Value) :
    ((((((((w.setCell ⟨g, 0, none⟩ a).setCell ⟨g, 1, none⟩ b).setCell ⟨g, 2, none⟩ c).setCell ⟨g, 3, none⟩ d).setCell ⟨g, 4, none⟩ e).setCell ⟨g, 5, none⟩ f).setCell ⟨g, 6, none⟩ p).setCell ⟨g, 7, none⟩ q).heap[g]? = some (.cells #[a, b, c, d, e, f, p, q] t (0, 0)) := by
  have h8 := blk_set (blk_set (blk_set (blk_set (blk_set (blk_set (blk_set (blk_set h 0 a) 1 b) 2 c) 3 d) 4 e) 5 f) 6 p) 7 q
  refine h8.trans (congrArg (fun x => some (Obj.cells x t (0, 0))) ?_)
  clear h h8
  obtain ⟨l⟩ := cs
  match l, hs with
  | [x0, x1, x2, x3, x4, x5, x6, x7], _ => simp only [List.setIfInBounds_toArray, List.set_cons_zero, List.set_cons_succ]
theorem blk_far' {w : World} {g t : Nat} {cs : Array Value} (h : w.heap[g]? = some (.cells cs t (0, 0))) {k j : Nat} (hp : g ≠ k) (u : Value) : (w.setCell ⟨k, j, none⟩ u).heap[g]? = some (.cells cs t (0, 0)) := blk_far h hp u
namespace Stp
variable {w0 w W : World} {g t : Nat} {cs : Array Value}
theorem start (hb : W.heap[g]? = some (.cells cs t (0, 0))) (hB : Below w0.heap.size w0 W) (hg : w0.heap.size ≤ g) : Stp w0 W g t cs W := ⟨hb, KeepBut.refl _ _ _, hB, hg, hB.size⟩
theorem alloc (h : Stp w0 w g t cs W) (o : Obj) : Stp w0 w g t cs (W.alloc o) := ⟨blk_alloc h.blk o, keep_alloc h.keep o, below_alloc h.bel o, h.ge, h.le⟩
theorem drew (h : Stp w0 w g t cs W) : Stp w0 w g t cs W.drew := ⟨h.blk, keep_drew h.keep, h.bel.drew, h.ge, h.le⟩
theorem drewN (h : Stp w0 w g t cs W) (n : Nat) : Stp w0 w g t cs (W.drewN n) := ⟨h.blk, keep_drewN h.keep n, pw_below_drewN h.bel n, h.ge, h.le⟩
theorem lt (h : Stp w0 w g t cs W) : g < W.heap.size := blk_lt h.blk
theorem size (h : Stp w0 w g t cs W) : w.heap.size ≤ W.heap.size := h.keep.1
theorem size0 (h : Stp w0 w g t cs W) : w0.heap.size ≤ W.heap.size := h.bel.size
/-- A store into a block that is new since the call began. -/
theorem far (h : Stp w0 w g t cs W) {p : Addr} (hp : w.heap.size ≤ p.block) (hne : g ≠ p.block) (u : Value) : Stp w0 w g t cs (W.setCell p u) :=
  ⟨blk_far h.blk hne u, keep_far h.keep hp u, h.bel.setCell (Nat.le_trans h.le hp) u, h.ge, h.le⟩
theorem far' (h : Stp w0 w g t cs W) {k j : Nat} (hp : w.heap.size ≤ k) (hne : g ≠ k) (u : Value) : Stp w0 w g t cs (W.setCell ⟨k, j, none⟩ u) := h.far hp hne u
/-- A store into the state. -/
theorem set (h : Stp w0 w g t cs W) (i : Nat) (u : Value) : Stp w0 w g t (cs.setIfInBounds i u) (W.setCell ⟨g, i, none⟩ u) :=
  ⟨blk_set h.blk i u, h.keep.set_ i u, h.bel.setCell h.ge u, h.ge, h.le⟩
theorem grown (h : Stp w0 w g t cs W) {W2 : World} {row : Option Nat} (hg : W.grownBy W2 row) (hr : ∀ k, row = some k → w.heap.size ≤ k) (hgw : g < w.heap.size) : Stp w0 w g t cs W2 :=
  ⟨blk_grown h.blk hg (fun e => by have := hr g e.symm; omega), h.keep.trans (KeepBut.of_grown hg g) (by
    cases row with
    | none => exact .inl rfl
    | some k => exact .inr ⟨k, rfl, hr k rfl⟩), h.bel.grown hg h.bel.size (fun k e => Nat.le_trans h.le (hr k e)), h.ge, h.le⟩
/-- A call that was handed the state. -/
theorem call (h : Stp w0 w g t cs W) {W2 : World} {cs2 : Array Value} (h2 : Stp w0 W g t cs2 W2) : Stp w0 w g t cs2 W2 := ⟨h2.blk, h.keep.trans h2.keep (.inl rfl), h2.bel, h.ge, h.le⟩
/-- A call that knows nothing of the state. -/
theorem below (h : Stp w0 w g t cs W) {W2 : World} (h2 : Below W.heap.size W W2) : Stp w0 w g t cs W2 := ⟨blk_below h.blk h2, h.keep.trans (KeepBut.of_below h2 g none) (.inl rfl), below_weaken h.bel h.bel.size h2, h.ge, h.le⟩
theorem cell (h : Stp w0 w g t cs W) (i : Nat) : W.cell? ⟨g, i, none⟩ = cs[i]? := blk_cell h.blk i
theorem frozen (h : Stp w0 w g t cs W) (i : Nat) : W.frozen? ⟨g, i, none⟩ = false := blk_frozen h.blk i
theorem cast (h : Stp w0 w g t cs W) {cs' : Array Value} (e : cs = cs') : Stp w0 w g t cs' W := e ▸ h
theorem other (h : Stp w0 w g t cs W) {k : Nat} {o : Obj} (hb : w.heap[k]? = some o) (hk : k ≠ g) : W.heap[k]? = some o := (h.keep.2 k (blk_lt hb) hk (by simp)).trans hb
theorem again (h : Stp w0 w g t cs W) : Stp w0 W g t cs W := ⟨h.blk, KeepBut.refl _ _ _, h.bel, h.ge, h.bel.size⟩
/-- What was read in w0 reads so still. -/
theorem old (h : Stp w0 w g t cs W) {a : Addr} {v : Value} (hc : w0.cell? a = some v) : W.cell? a = some v := (h.bel.cell (World.block_lt_of_cell? _ _ hc)).trans hc
end Stp

/-- A row of the call's own while a call that may write block g alone has run: its blocks are new since an elder world of size B, g lay before. -/
theorem R_keepBut {α : Type} {d : Kd α} {e B : Nat} {W W2 : World} {g : Nat} {v : Value} {xs : List α} (h : d.R e W B (fun _ => True) v xs) (hk : KeepBut W W2 g none) (hg : g < B) : d.R e W2 B (fun _ => True) v xs :=
  Kd.R_mono (Kd.R_keep (Kd.R_bound h) hk (fun k hk => by have := hk.2.1; omega)) (fun _ _ => trivial)
theorem M_keepBut {α : Type} {d : Kd α} {B : Nat} {W W2 : World} {g : Nat} {x : α} {cs : List Value} (h : d.M W B (fun _ => True) x cs) (hk : KeepBut W W2 g none) (hg : g < B) : d.M W2 B (fun _ => True) x cs :=
  d.M_mono (fun _ _ => trivial) (Kd.M_keep (d.M_bound h) hk (fun k hk => by have := hk.2.1; omega))
theorem R_farB {α : Type} {d : Kd α} {e B : Nat} {W : World} {v : Value} {xs : List α} (h : d.R e W B (fun _ => True) v xs) {k j : Nat} (hk : k < B) (u : Value) : d.R e (W.setCell ⟨k, j, none⟩ u) B (fun _ => True) v xs :=
  Kd.R_mono (Kd.R_far (p := ⟨k, j, none⟩) (Kd.R_bound h) (fun q hq => by have := hq.2.1; show q ≠ k; omega) u) (fun _ _ => trivial)
/-- A row whose blocks are new since B, another row of that kind being one that was made before W. -/
theorem R_apart {α β : Type} {d : Kd α} {d' : Kd β} {e e' B B' : Nat} {W W2 : World} {v u : Value} {xs : List α} {ys : List β} (h : d.R e W2 W.heap.size (fun _ => True) v xs) (hu : d'.R e' W B' (fun _ => True) u ys) (hB : B ≤ W.heap.size) : d.R e W2 B (fun k => some k ≠ u.ownBlock) v xs :=
  Kd.R_lower (Kd.R_mono (Kd.R_newR h hu) (fun _ hk => hk.2)) hB
end Go.Proofs.YtgdpojleejdfaaaDoor.Px
