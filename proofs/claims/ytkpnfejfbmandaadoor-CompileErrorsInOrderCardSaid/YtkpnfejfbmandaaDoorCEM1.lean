import Derived.Test.YtkpnfejfbmandaaDoorCEM0
import Derived.Laws.StructEq
import Derived.Test.YtkpnfejfbmandaaDoorProg
import Derived.Below
import Derived.Deep.Draws
import Derived.Deep.AppendLies
import Derived.Maps.AppendAt
import Derived.OwnWalk
import Derived.Laws.BytesArg
import Derived.Laws.MakeOwn
import Derived.Laws.OwnMore
import Derived.Deep.OwnRows
import Derived.Tactics
import Derived.Lib.ConvBytes
import Derived.Laws.Slices
import Derived.WalkKit
import Derived.KernelRfl
import Derived.RowKit3
import Derived.Deep.LoopGhost
import Derived.Deep.QuietTactic
import Derived.BigQuiet
import Derived.WideLaws
import Derived.Deep.DeepCutAuto
import Derived.Deep.CutBlock
import Derived.Deep.RegionHeld3
import Derived.Laws.Rows
import Derived.Lib.AppendStr
import Derived.ArgAppend
import Derived.Laws.IdiomCopy
import Derived.OrdersHeld
import Derived.Laws.BitsLemmas
import Derived.RowKit
import Derived.Maps.RangeWalk
import Derived.Lib.FieldsP
import Derived.Lib.Split
import Derived.Lib.IndexMore
import Derived.Lib.DecodeN
import Derived.Shelf.Strings.Builder1
import Derived.Shelf.Strings.Builder2
import Derived.Shelf.Strings.OnBuilder
import Derived.Shelf.Small.Strs
import Derived.Shelf.Small.Wraps
import Derived.Shelf.Strings.BuilderF
import Derived.Shelf.Strings.BuilderK
import Derived.Shelf.Utf8.RuneCount
import Derived.Shelf.Strings.Builder2Cap
import Derived.Shelf.Strings.Search1
import Derived.Shelf.Strings.Search2
import Derived.Shelf.Strings.Search3
import Derived.Shelf.Strings.Cut
import Derived.Shelf.Strings.Count
import Derived.Shelf.LaysM
import Derived.Shelf.Strings.Shaped
import Derived.Shelf.Strings.Prefix
import Derived.Shelf.Strings.Split
import Derived.Shelf.Strings.SplitShaped
import Derived.Shelf.Unicode.Decode
import Derived.Shelf.Strings.RuneCount
import Derived.Shelf.Strings.Explode
import Derived.Shelf.Bits.Mul64
import Derived.Shelf.Strings.Repeat
import Derived.Shelf.Unicode.DecodeSlow
import Derived.Shelf.Unicode.DecodeAny
import Derived.Shelf.Strings.FieldsFuncAny
import Derived.Shelf.Strings.FieldsFuncGrows
import Derived.Shelf.Strings.BuilderCap
namespace Go.Proofs.YtkpnfejfbmandaaDoorW.PrintLast
set_option linter.unusedVariables false
set_option linter.unusedSimpArgs false
open Go.Proofs.YtkpnfejfbmandaaDoorW.PrintWords (Aside0)
def needsOf (md : Region.Mode) (o : Oper) : List Nat := (o.after.toList.filter (fun e => Region.binds md e)).map (fun e => e.on)
def clashOf (md : Region.Mode) (ops : Array Oper) (i : Nat) (oi : Oper) : List Nat := (List.range ops.size).filter fun j => !(j == i) && match ops[j]? with
  | some oj => !(oj.after.any (fun e => Region.binds md e && e.on == i) || oi.apart ops oj)
  | none => false
/-- No select in it; for each operation: what must have come up before it, and what may not come up behind it if it is taken first. -/
def rtab (md : Region.Mode) (ops : Array Oper) : Bool × List (List Nat × List Nat) := (Region.noSelect ops, (List.range ops.size).map fun i => match ops[i]? with
  | some o => (needsOf md o, clashOf md ops i o)
  | none => ([], []))
def readyAt (T : List (List Nat × List Nat)) (l : List Bool) (i : Nat) : Bool := !l.getD i true && match T[i]? with
  | some r => r.1.all (fun j => l.getD j false)
  | none => false
def readyT (T : List (List Nat × List Nat)) (l : List Bool) : List Nat := (List.range T.length).filter (readyAt T l)
def freeT (T : List (List Nat × List Nat)) (l : List Bool) (i : Nat) : Bool := match T[i]? with
  | some r => r.2.all (fun j => l.getD j true)
  | none => false
def closedT (T : List (List Nat × List Nat)) (l : List Bool) : Bool := (List.range T.length).all fun j => !l.getD j false || match T[j]? with
  | some r => r.1.all (fun k => l.getD k false)
  | none => true
def reachT (T : List (List Nat × List Nat)) (i : Nat) : Nat → Nat → Bool
  | 0, _ => false
  | fuel + 1, d => match T[d]? with
    | some r => r.1.any fun j => j == i || reachT T i fuel j
    | none => false
def lastT (T : List (List Nat × List Nat)) (l : List Bool) (ds : List Nat) (i : Nat) : Bool := ds.all fun d => l.getD d true || reachT T i T.length d
section
variable {md : Region.Mode} {ops : Array Oper} {T : Bool × List (List Nat × List Nat)} {l l' li lj lk : Array Bool} {ds : List Nat} {i j k : Nat}
theorem gd (l : Array Bool) (j : Nat) (b : Bool) : l.getD j b = l.toList.getD j b := by simp [Array.getD_eq_getD_getElem?, List.getD_eq_getElem?_getD]
theorem needs_all (o : Oper) (p : Nat → Bool) : o.after.all (fun e => !Region.binds md e || p e.on) = (needsOf md o).all p := by
  unfold needsOf
  rw [← Array.all_toList]
  induction o.after.toList with
  | nil => rfl
  | cons e r ih =>
    rw [List.all_cons, ih, List.filter_cons]
    cases h : Region.binds md e <;> simp
theorem needs_any (o : Oper) (p : Nat → Bool) : o.after.any (fun e => Region.binds md e && p e.on) = (needsOf md o).any p := by
  unfold needsOf
  rw [← Array.any_toList]
  induction o.after.toList with
  | nil => rfl
  | cons e r ih =>
    rw [List.any_cons, ih, List.filter_cons]
    cases h : Region.binds md e <;> simp
theorem rtab_length : (rtab md ops).2.length = ops.size := by simp [rtab]
theorem rtab_some {o : Oper} (h : ops[i]? = some o) : (rtab md ops).2[i]? = some (needsOf md o, clashOf md ops i o) := by
  have hi := (Array.getElem?_eq_some_iff.1 h).1
  unfold rtab
  rw [List.getElem?_map, List.getElem?_range hi, Option.map_some, h]
theorem rtab_none (h : ops[i]? = none) : (rtab md ops).2[i]? = none := by
  have hi : ops.size ≤ i := Array.getElem?_eq_none_iff.1 h
  exact List.getElem?_eq_none (by rw [rtab_length]; exact hi)
theorem readyAt_eq : readyAt (rtab md ops).2 l.toList i = (!l.getD i true && ((ops[i]?).map (·.after.all fun e => !Region.binds md e || l.getD e.on false)).getD false) := by
  unfold readyAt
  rw [gd]
  cases h : ops[i]? with
  | none => rw [rtab_none h]; rfl
  | some o =>
    rw [rtab_some h]
    simp only [Option.map_some, Option.getD_some]
    rw [← needs_all]
    simp only [gd]
theorem ready_eq : Region.ready md ops l = readyT (rtab md ops).2 l.toList := by
  unfold Region.ready readyT
  rw [rtab_length]
  refine List.filter_congr (fun i _ => ?_)
  rw [readyAt_eq]
theorem free_eq : Region.free md ops l i = freeT (rtab md ops).2 l.toList i := by
  unfold Region.free freeT
  cases h : ops[i]? with
  | none => rw [rtab_none h]
  | some oi =>
    rw [rtab_some h]
    simp only [clashOf]
    rw [List.all_filter]
    congr 1
    funext j
    rw [gd]
    cases hj : ops[j]? with
    | none => cases (j == i) <;> cases (l.toList.getD j true) <;> simp
    | some oj =>
      cases (j == i) <;> cases (l.toList.getD j true) <;> cases (oj.after.any (fun e => Region.binds md e && e.on == i) || oi.apart ops oj) <;> simp_all
theorem closed_eq : Region.closedB md ops l = closedT (rtab md ops).2 l.toList := by
  unfold Region.closedB closedT
  rw [rtab_length]
  congr 1
  funext j
  rw [gd]
  cases h : ops[j]? with
  | none => rw [rtab_none h]
  | some o =>
    rw [rtab_some h]
    simp only
    rw [← needs_all]
    simp only [gd]
theorem reach_eq : ∀ (fuel d : Nat), Region.reachB md ops i fuel d = reachT (rtab md ops).2 i fuel d
  | 0, _ => rfl
  | fuel + 1, d => by
    unfold Region.reachB reachT
    cases h : ops[d]? with
    | none => rw [rtab_none h]
    | some o =>
      rw [rtab_some h]
      simp only
      rw [← needs_any]
      congr 1
      funext e
      rw [reach_eq fuel]
theorem last_eq : Region.lastB md ops l ds i = lastT (rtab md ops).2 l.toList ds i := by
  unfold Region.lastB lastT
  rw [rtab_length]
  congr 1
  funext d
  rw [gd, reach_eq]
theorem readyAt_mem (h : readyAt T.2 l.toList i = true) (hT : rtab md ops = T) : (Region.ready md ops l).contains i = true := by
  subst hT
  rw [ready_eq]
  unfold readyT
  rw [List.contains_iff_mem, List.mem_filter, List.mem_range]
  refine ⟨?_, h⟩
  unfold readyAt at h
  rw [Bool.and_eq_true] at h
  cases hq : (rtab md ops).2[i]? with
  | none => rw [hq] at h; simp at h
  | some r => exact (List.getElem?_eq_some_iff.1 hq).1
theorem set_of (h : (l.toList.set i true == l'.toList) = true) : (l.setIfInBounds i true == l') = true := by
  rw [beq_iff_eq] at h ⊢
  apply Array.ext'
  rw [Array.toList_setIfInBounds]
  exact h
def anyT (T : Bool × List (List Nat × List Nat)) (l l' : List Bool) (i : Nat) : Bool := T.1 && freeT T.2 l i && readyAt T.2 l i && (l.set i true == l')
/-- pure_'s condition out of the table. -/
theorem any_of (hT : rtab md ops = T) (h : anyT T l.toList l'.toList i = true) : anyB md ops l l' i = true := by
  simp only [anyT, Bool.and_eq_true] at h
  obtain ⟨⟨⟨h1, h2⟩, h3⟩, h4⟩ := h
  have h5 := readyAt_mem h3 hT
  have h6 := set_of h4
  subst hT
  simp only [anyB, Bool.and_eq_true]
  exact ⟨⟨⟨h1, by rw [free_eq]; exact h2⟩, h5⟩, h6⟩
def takeT (T : Bool × List (List Nat × List Nat)) (ds : List Nat) (l l' : List Bool) (i : Nat) : Bool := T.1 && freeT T.2 l i && readyAt T.2 l i && closedT T.2 l && lastT T.2 l ds i && (l.set i true == l')
/-- take_'s. -/
theorem take_of (hT : rtab md ops = T) (h : takeT T ds l.toList l'.toList i = true) : takeB md ops ds l l' i = true := by
  simp only [takeT, Bool.and_eq_true] at h
  obtain ⟨⟨⟨⟨⟨h1, h2⟩, h3⟩, h4⟩, h5⟩, h6⟩ := h
  have h7 := readyAt_mem h3 hT
  have h8 := set_of h6
  subst hT
  simp only [takeB, Bool.and_eq_true]
  exact ⟨⟨⟨⟨⟨h1, by rw [free_eq]; exact h2⟩, h7⟩, by rw [closed_eq]; exact h4⟩, by rw [last_eq]; exact h5⟩, h8⟩
/-- one_'s and last_'s. -/
theorem one_of (hT : rtab md ops = T) (h : (readyT T.2 l.toList == [i] && l.toList.set i true == l'.toList) = true) : readyB md ops l l' i = true := by
  simp only [Bool.and_eq_true] at h
  obtain ⟨h1, h2⟩ := h
  subst hT
  simp only [readyB, Bool.and_eq_true]
  exact ⟨by rw [ready_eq]; exact h1, set_of h2⟩
/-- done_'s. -/
theorem done_of (hT : rtab md ops = T) (h : (readyT T.2 l.toList == []) = true) : (Region.ready md ops l == []) = true := by
  subst hT
  rw [ready_eq]
  exact h
/-- What d waits for, as_ bits: told in the table (B), checked in one pass: each bit is a need of d, or a bit of an earlier need's. -/
def upM (B : List Nat) (d : Nat) : List Nat → Nat
  | [] => 0
  | n :: r => (2 ^ n ||| (if n < d then B.getD n 0 else 0)) ||| upM B d r
def waitsOk (T : List (List Nat × List Nat)) (B : List Nat) : Bool := (List.range T.length).all fun d => match T[d]? with
  | some r => (B.getD d 0 ||| upM B d r.1) == upM B d r.1
  | none => false
theorem upM_bit {B : List Nat} {d i : Nat} : ∀ {ns : List Nat}, (upM B d ns).testBit i = true → ∃ n ∈ ns, n = i ∨ (n < d ∧ (B.getD n 0).testBit i = true)
  | [], h => by simp [upM] at h
  | n :: r, h => by
    unfold upM at h
    rw [Nat.testBit_or, Nat.testBit_or, Bool.or_eq_true, Bool.or_eq_true] at h
    rcases h with (h | h) | h
    · rw [Nat.testBit_two_pow] at h
      exact ⟨n, List.mem_cons_self, .inl (by simpa using h)⟩
    · by_cases hn : n < d
      · rw [if_pos hn] at h
        exact ⟨n, List.mem_cons_self, .inr ⟨hn, h⟩⟩
      · rw [if_neg hn] at h
        simp at h
    · obtain ⟨m, hm, h2⟩ := upM_bit h
      exact ⟨m, List.mem_cons_of_mem _ hm, h2⟩
theorem reach_bit {T : List (List Nat × List Nat)} {B : List Nat} (hB : waitsOk T B = true) : ∀ (fuel d : Nat), d < fuel → d < T.length → (B.getD d 0).testBit i = true → reachT T i fuel d = true
  | 0, d, h, _, _ => by omega
  | fuel + 1, d, h, hd, hb => by
    have h1 := List.all_eq_true.1 hB d (List.mem_range.2 hd)
    cases hr : T[d]? with
    | none => rw [hr] at h1; simp at h1
    | some r =>
      rw [hr] at h1
      simp only [beq_iff_eq] at h1
      have h2 : (upM B d r.1).testBit i = true := by rw [← h1, Nat.testBit_or, hb, Bool.true_or]
      obtain ⟨n, hn, h3⟩ := upM_bit h2
      unfold reachT
      rw [hr]
      simp only
      rw [List.any_eq_true]
      refine ⟨n, hn, ?_⟩
      rcases h3 with rfl | ⟨h4, h5⟩
      · simp
      · rw [reach_bit hB fuel n (by omega) (by omega) h5, Bool.or_true]
def lastW (T : List (List Nat × List Nat)) (B : List Nat) (l : List Bool) (ds : List Nat) (i : Nat) : Bool := ds.all fun d => l.getD d true || (decide (d < T.length) && (B.getD d 0).testBit i)
def takeW (T : Bool × List (List Nat × List Nat)) (B : List Nat) (ds : List Nat) (l l' : List Bool) (i : Nat) : Bool := T.1 && freeT T.2 l i && readyAt T.2 l i && closedT T.2 l && lastW T.2 B l ds i && (l.set i true == l')
/-- take_'s, by the bits. -/
theorem take_ofW {B : List Nat} (hT : rtab md ops = T) (hB : waitsOk T.2 B = true) (h : takeW T B ds l.toList l'.toList i = true) : takeB md ops ds l l' i = true := by
  refine take_of hT ?_
  simp only [takeW, takeT, Bool.and_eq_true] at h ⊢
  obtain ⟨⟨⟨⟨⟨h1, h2⟩, h3⟩, h4⟩, h5⟩, h6⟩ := h
  refine ⟨⟨⟨⟨⟨h1, h2⟩, h3⟩, h4⟩, ?_⟩, h6⟩
  unfold lastW at h5
  unfold lastT
  rw [List.all_eq_true] at h5 ⊢
  intro d hd
  have h7 := h5 d hd
  rw [Bool.or_eq_true, Bool.and_eq_true, decide_eq_true_eq] at h7
  rcases h7 with h7 | ⟨h8, h9⟩
  · rw [h7, Bool.true_or]
  · rw [reach_bit hB _ d h8 h8 h9, Bool.or_true]
theorem with_tabW {P : Program} {Q : Exit → Act → World → Prop} {S : World → Prop} {n : Nat} {a : Act} {w : World} {B : List Nat} (hT : rtab md ops = T) (hB : waitsOk T.2 B = true) (h : Aside0 (rtab md ops = T) → Aside0 (waitsOk T.2 B = true) → wpAnyLast P md ops Q S ds n l a w) : wpAnyLast P md ops Q S ds n l a w := h ⟨hT⟩ ⟨hB⟩
end
/-- The operations of a region, by its number. -/
def opsIn : Code → Nat → Option (Array Oper)
  | .region id ops _, k => if id == k then some ops else none
  | .seq a b, k => match opsIn a k with
    | some o => some o
    | none => opsIn b k
  | .cond _ a b, k => match opsIn a k with
    | some o => some o
    | none => opsIn b k
  | .block _ c, k => opsIn c k
  | .loop c, k => opsIn c k
  | .scope c, k => opsIn c k
  | .rangeFunc _ _ a b, k => match opsIn a k with
    | some o => some o
    | none => opsIn b k
  | _, _ => none
def opsOf (f : Func) (k : Nat) : Array Oper := ((f.body.bind fun c => opsIn c k)).getD #[]
end Go.Proofs.YtkpnfejfbmandaaDoorW.PrintLast

namespace Go.Proofs.YtkpnfejfbmandaaDoorW.PrintWords
set_option linter.unusedVariables false
set_option linter.unusedSimpArgs false
open Go.RowKit
namespace Kd
/-- An element with its index: its blocks are those that f gives to it. -/
def tag {α : Type} (f : Nat → Nat) (d : Kd α) : Kd (α × Nat) where
  sz := d.sz
  E := d.E
  K := fun w x cs => d.K w x.1 cs
  M := fun w base ok x cs => d.M w base (fun k => ok k ∧ f k = x.2) x.1 cs
  K_len := fun h => d.K_len h
  K_one := fun h => d.K_one h
  K_below := fun hb h => d.K_below hb h
  K_of_M := fun h => d.K_of_M h
  M_mono := fun hok h => d.M_mono (fun k hk => ⟨hok k hk.1, hk.2⟩) h
  M_bound := fun h => d.M_mono (fun _ hk => ⟨⟨hk.1.1, hk.2⟩, hk.1.2⟩) (d.M_bound h)
  M_move := fun hm h => d.M_move (fun k hk => hm k hk.1) h
  M_lower := fun hb h => d.M_lower hb h
/-- The cells themselves. -/
def raw (sz : Nat) : Kd (List Value) where
  sz := sz
  E := []
  K := fun _ x cs => cs = x ∧ cs.length = sz ∧ ∀ u ∈ cs, u.oneCell' = true
  M := fun _ _ _ x cs => cs = x ∧ cs.length = sz ∧ ∀ u ∈ cs, u.oneCell' = true
  K_len := fun h => h.2.1
  K_one := fun h => h.2.2
  K_below := fun _ h => h
  K_of_M := fun h => h
  M_mono := fun _ h => h
  M_bound := fun h => h
  M_move := fun _ h => h
  M_lower := fun _ h => h
/-- A row of elements (type e) of the call's own, no two of which lead to one block. -/
def S {α : Type} (d : Kd α) (e : Nat) (w : World) (base : Nat) (ok : Nat → Prop) (v : Value) (xs : List α) : Prop := ∃ f, (tag f d).R e w base ok v xs.zipIdx
section
variable {α β : Type} {d : Kd α} {d' : Kd β} {e e' : Nat} {w w1 W : World} {base b : Nat} {ok ok' okv oku : Nat → Prop} {u v : Value} {xs : List α} {ys : List β}
end
section
variable {α β : Type} {d : Kd α} {d' : Kd β} {e e' g : Nat} {w w1 W : World} {base b : Nat} {ok ok' okv oku : Nat → Prop} {u v : Value} {xs : List α} {ys : List β}
end
section
variable {P : Program} {ops : Array Oper} {rest : List Oper} {o : Oper} {a : Act} {Q : Exit → Act → World → Prop} {Kc : Act → World → Prop} {α : Type}
end
/-- Element i is these cells; the others are d's. -/
def gap {α : Type} (f : Nat → Nat) (d : Kd α) (i : Nat) (c : List Value) : Kd (α × Nat) where
  sz := d.sz
  E := d.E
  K := fun w x cs => (x.2 = i → cs = c ∧ cs.length = d.sz ∧ ∀ u ∈ cs, u.oneCell' = true) ∧ (x.2 ≠ i → d.K w x.1 cs)
  M := fun w base ok x cs => (x.2 = i → cs = c ∧ cs.length = d.sz ∧ ∀ u ∈ cs, u.oneCell' = true) ∧ (x.2 ≠ i → d.M w base (fun k => ok k ∧ f k = x.2) x.1 cs)
  K_len := fun {w x cs} h => by
    by_cases hx : x.2 = i
    · exact (h.1 hx).2.1
    · exact d.K_len (h.2 hx)
  K_one := fun {w x cs} h => by
    by_cases hx : x.2 = i
    · exact (h.1 hx).2.2
    · exact d.K_one (h.2 hx)
  K_below := fun hb h => ⟨h.1, fun hx => d.K_below hb (h.2 hx)⟩
  K_of_M := fun h => ⟨h.1, fun hx => d.K_of_M (h.2 hx)⟩
  M_mono := fun hok h => ⟨h.1, fun hx => d.M_mono (fun k hk => ⟨hok k hk.1, hk.2⟩) (h.2 hx)⟩
  M_bound := fun h => ⟨h.1, fun hx => d.M_mono (fun _ hk => ⟨⟨hk.1.1, hk.2⟩, hk.1.2⟩) (d.M_bound (h.2 hx))⟩
  M_move := fun hm h => ⟨h.1, fun hx => d.M_move (fun k hk => hm k hk.1) (h.2 hx)⟩
  M_lower := fun hb h => ⟨h.1, fun hx => d.M_lower hb (h.2 hx)⟩
def H {α : Type} (d : Kd α) (e : Nat) (w : World) (base : Nat) (ok : Nat → Prop) (v : Value) (xs : List α) (i : Int) (oki : Nat → Prop) (c : List Value) : Prop :=
  (∀ k, oki k → ok k) ∧ ∃ f, (gap f d i.toNat c).R e w base (fun k => ok k ∧ ¬ oki k) v xs.zipIdx
section
variable {α β : Type} {d : Kd α} {e e' g n cap : Nat} {w w1 W : World} {base : Nat} {ok ok' oki okp : Nat → Prop} {u v : Value} {xs : List α} {i : Int} {c : List Value}
end
section
variable {P : Program} {ops : Array Oper} {rest : List Oper} {o : Oper} {a : Act} {Q : Exit → Act → World → Prop} {α : Type}
end
end Kd
end Go.Proofs.YtkpnfejfbmandaaDoorW.PrintWords

namespace Go.Proofs.YtkpnfejfbmandaaDoorW.PrintWords
set_option linter.unusedVariables false
set_option linter.unusedSimpArgs false
open Go.RowKit
namespace Kd
/-- What a kind reads lies in the blocks: nothing else of the world is looked at. -/
structure Heap {α : Type} (d : Kd α) : Prop where
  K : ∀ {w w1 : World} {x : α} {cs : List Value}, (∀ k, k < w.heap.size → w1.heap[k]? = w.heap[k]?) → d.K w x cs → d.K w1 x cs
theorem cell_heap {w w1 : World} (hb : ∀ k, k < w.heap.size → w1.heap[k]? = w.heap[k]?) {a : Addr} {v : Value} (h : w.cell? a = some v) : w1.cell? a = some v := by
  have := hb a.block (World.block_lt_of_cell? w a h)
  simpa [World.cell?, this] using h
theorem Heap.C {α : Type} {d : Kd α} (hd : Heap d) {w w1 : World} {A : Option Addr} {n : Nat} {xs : List α} (hb : ∀ k, k < w.heap.size → w1.heap[k]? = w.heap[k]?) (h : d.C w A n xs) : d.C w1 A n xs :=
  ⟨h.1, h.2.1, fun hn => by
    obtain ⟨ad, e, hc⟩ := h.2.2 hn
    refine ⟨ad, e, fun j p hj => ?_⟩
    obtain ⟨c, hs, hr, hcell⟩ := hc j p hj
    exact ⟨c, hs, hd.K hb hr, fun i u hu => cell_heap hb (hcell i u hu)⟩⟩
section
variable {α : Type} {d : Kd α} {e base g n c : Nat} {ok : Nat → Prop} {w w0 W : World} {A : Option Addr} {xs : List α}
end
end Kd
end Go.Proofs.YtkpnfejfbmandaaDoorW.PrintWords

namespace Go.Proofs.YtkpnfejfbmandaaDoorW.PrintWords
set_option linter.unusedVariables false
set_option linter.unusedSimpArgs false
open Go.RowKit
def Kept (w W : World) (S : Nat → Prop) : Prop := w.heap.size ≤ W.heap.size ∧ ∀ i, i < w.heap.size → ¬ S i → W.heap[i]? = w.heap[i]?
section
variable {w W W2 : World} {S S2 S' : Nat → Prop}
theorem Kept.refl (w : World) (S : Nat → Prop) : Kept w w S := ⟨Nat.le_refl _, fun _ _ _ => rfl⟩
theorem Kept.of_below (h : Below w.heap.size w W) (S : Nat → Prop) : Kept w W S := ⟨h.size, fun i hi _ => h.block i hi⟩
theorem Kept.then_ (h : Kept w W S) (k : Kept W W2 S2) (hs : ∀ k, S2 k → S k ∨ w.heap.size ≤ k) : Kept w W2 S :=
  ⟨Nat.le_trans h.1 k.1, fun i hi hn => (k.2 i (Nat.lt_of_lt_of_le hi h.1) (fun h2 => (hs i h2).elim hn (fun h3 => by omega))).trans (h.2 i hi hn)⟩
theorem Kept.of_grown {row : Option Nat} (hg : W.grownBy W2 row) (h : Kept w W S) (hr : ∀ k, row = some k → S k ∨ w.heap.size ≤ k) : Kept w W2 S :=
  h.then_ (S2 := fun k => row = some k) ⟨hg.size, fun i hi hn => hg.block i hi (fun he => hn he.symm)⟩ hr
theorem Kept.below (h : Kept w W S) (hb : Below W.heap.size W W2) : Kept w W2 S := h.then_ (Kept.of_below hb (fun _ => False)) (fun _ hk => hk.elim)
theorem Kept.alloc (h : Kept w W S) (o : Obj) : Kept w (W.alloc o) S := h.below (below_alloc (Below.refl _ _) o)
theorem Kept.drew (h : Kept w W S) : Kept w W.drew S := h
theorem Kept.drewN (h : Kept w W S) (m : Nat) : Kept w (W.drewN m) S := h
theorem Kept.setCell (h : Kept w W S) {p : Addr} (hp : S p.block ∨ w.heap.size ≤ p.block) (u : Value) : Kept w (W.setCell p u) S :=
  h.then_ (S2 := fun k => k = p.block) ⟨by simp [World.setCell], fun i _ hn => Below.heap_setCell W p u i hn⟩ (fun k hk => by rw [hk]; exact hp)
/-- Beside a state: what was written is new since. -/
theorem Kept.keep {g : Nat} (h : KeepBut w W g none) (k : Kept W W2 S2) (hs : ∀ k, S2 k → w.heap.size ≤ k) : KeepBut w W2 g none :=
  ⟨Nat.le_trans h.1 k.1, fun i hi hg hr => (k.2 i (Nat.lt_of_lt_of_le hi h.1) (fun h2 => by have := hs i h2; omega)).trans (h.2 i hi hg hr)⟩
theorem blk_kept {g : Nat} {o : Obj} (hb : W.heap[g]? = some o) (hk : Kept W W2 S) (hne : ¬ S g) : W2.heap[g]? = some o := (hk.2 g (blk_lt hb) hne).trans hb
end
namespace Kd
section
variable {α : Type} {d : Kd α} {e base n c : Nat} {ok oki S S2 : Nat → Prop} {w w0 W W1 W2 : World} {v : Value} {A : Option Addr} {xs : List α} {i : Int} {cs : List Value}
end
end Kd
end Go.Proofs.YtkpnfejfbmandaaDoorW.PrintWords

namespace Go.Proofs.YtkpnfejfbmandaaDoorW.PrintWords
set_option linter.unusedVariables false
set_option linter.unusedSimpArgs false
open Go.RowKit
/-- P holds in W and in every world that has W's blocks of ok. -/
def Foot (P : World → Prop) (W : World) (ok : Nat → Prop) : Prop := ∀ W' : World, (∀ k, ok k → k < W.heap.size → W'.heap[k]? = W.heap[k]?) → P W'
theorem heap_lt {W W1 : World} {k : Nat} (h : W1.heap[k]? = W.heap[k]?) (hlt : k < W.heap.size) : k < W1.heap.size := by
  rw [Array.getElem?_eq_getElem hlt] at h
  exact (Array.getElem?_eq_some_iff.1 h).1
namespace Foot
variable {P Q : World → Prop} {W W1 : World} {ok ok' : Nat → Prop}
theorem now (h : Foot P W ok) : P W := h W (fun _ _ _ => rfl)
theorem bound (h : Foot P W ok) : Foot P W (fun k => ok k ∧ k < W.heap.size) := fun W' hW => h W' (fun k hk hlt => hW k ⟨hk, hlt⟩ hlt)
theorem step (h : Foot P W ok) (hm : ∀ k, ok k → k < W.heap.size → W1.heap[k]? = W.heap[k]?) : Foot P W1 ok := fun W' hW => h W' (fun k hk hlt => (hW k hk (heap_lt (hm k hk hlt) hlt)).trans (hm k hk hlt))
theorem imp (h : Foot P W ok) (hi : ∀ W', P W' → Q W') : Foot Q W ok := fun W' hW => hi W' (h W' hW)
/-- Moved, and still elder than what is new since W. -/
theorem old (h : Foot P W ok) (hb : Below W.heap.size W W1) : Foot P W1 (fun k => ok k ∧ k < W.heap.size) := (h.bound).step (fun k _ hlt => hb.block k hlt)
end Foot
namespace Kd
/-- A row that is only read: what it leads to lies in ok. -/
def F {α : Type} (d : Kd α) (W : World) (ok : Nat → Prop) (A : Option Addr) (n : Nat) (xs : List α) : Prop := Foot (fun W => d.C W A n xs) W ok
/-- An element's cells: what they lead to lies in ok. -/
def FK {α : Type} (d : Kd α) (W : World) (ok : Nat → Prop) (x : α) (c : List Value) : Prop := Foot (fun W => d.K W x c) W ok
section
variable {α β : Type} {d : Kd α} {e base n n' cc g N : Nat} {ok ok' okp S : Nat → Prop} {w w0 w1 W W1 : World} {A A' : Option Addr} {u v v1 : Value} {xs : List α} {xs' : List β} {d' : Kd β} {x : α} {c : List Value}
end
end Kd
end Go.Proofs.YtkpnfejfbmandaaDoorW.PrintWords

namespace Go.Proofs.YtkpnfejfbmandaaDoorW.PrintWords
set_option linter.unusedVariables false
set_option linter.unusedSimpArgs false
open Go.RowKit
namespace Kd
section
variable {α : Type} {d : Kd α} {e base n cc g : Nat} {ok ok' okp S : Nat → Prop} {w w1 W W1 : World} {A : Option Addr} {u v v1 : Value} {xs : List α} {x : α} {c : List Value}
/-- A row of elements (type e) of the call's own; what the elements lead to is only read, and is not this row. -/
def N {α : Type} (d : Kd α) (e : Nat) (w : World) (base : Nat) (ok : Nat → Prop) (v : Value) (xs : List α) : Prop :=
  (∀ k, v.ownBlock = some k → ok k) ∧ ∃ rows : List (List Value), rows.length = xs.length ∧ (raw d.sz).R e w base (fun k => some k = v.ownBlock) v rows ∧ ∀ (j : Nat) (x : α) (c : List Value), xs[j]? = some x → rows[j]? = some c → FK d w (fun k => ok k ∧ some k ≠ v.ownBlock) x c
theorem raw_any {sz : Nat} {rows : List (List Value)} (h : (raw sz).R e w base ok v rows) : (raw sz).R e w base (fun _ => True) v rows := R_mono h (fun _ _ => trivial)
end
end Kd
end Go.Proofs.YtkpnfejfbmandaaDoorW.PrintWords

namespace Go.Proofs.YtkpnfejfbmandaaDoorW.PrintWords
set_option linter.unusedVariables false
set_option linter.unusedSimpArgs false
open Go.RowKit
section
variable {P : Program} {d : Nat} {xs ys : Array Value} {f : Field} {fs : List Field} {a b : Value} {r s : Bool} {w : World}
/-- The last field that counts. -/
theorem eqf_last (hn : (f.name == "_") = false) (ha : (part f.type xs f.offset).run P w = .ok a w) (hb : (part f.type ys f.offset).run P w = .ok b w) (he : (Op.equalIn d f.type a b).run P w = .ok r w) : (Op.eqFields d xs ys [f]).run P w = .ok r w := by
  have hn' : f.name ≠ "_" := by simpa using hn
  simp only [Op.eqFields, if_pos hn', Sem.run_bind, ha, hb, he, Result.andThen_ok]
  cases r <;> simp
theorem eqf_cons (hn : (f.name == "_") = false) (ha : (part f.type xs f.offset).run P w = .ok a w) (hb : (part f.type ys f.offset).run P w = .ok b w) (he : (Op.equalIn d f.type a b).run P w = .ok r w) (hr : (Op.eqFields d xs ys fs).run P w = .ok s w) : (Op.eqFields d xs ys (f :: fs)).run P w = .ok (r && s) w := by
  have hn' : f.name ≠ "_" := by simpa using hn
  rw [Op.eqFields]
  simp only [if_pos hn', Sem.run_bind, ha, hb, he, Result.andThen_ok]
  cases r
  · simp
  · simpa using hr
theorem eqA_of {t : TypeId} {fs : Array Field} (hu : P.underlying t = some (.struct fs)) (hp : P.stoodInHeld t = false) (h : (Op.eqFields d xs ys fs.toList).run P w = .ok r w) : (Op.equalIn (d + 1) t (.agg xs) (.agg ys)).run P w = .ok r w := by
  have hf : P.fieldsOf t = fs := by simp [Program.fieldsOf, hu]
  rw [run_equalIn_struct (P := P) w d t xs ys (by rw [hf]; exact hu) hp, hf]
  exact h
end
end Go.Proofs.YtkpnfejfbmandaaDoorW.PrintWords

namespace Go.Proofs.YtkpnfejfbmandaaDoorW.PrintWords
set_option linter.unusedVariables false
set_option linter.unusedSimpArgs false
/-- One cell an element. -/
theorem Reps.one {α : Type} {R : α → List Value → Prop} {ps : List α} {cs : List Value} {p : α} {v : Value} (hp : R p [v]) (h : Reps R 1 ps cs) : Reps R 1 (p :: ps) (v :: cs) := by
  refine ⟨by simp [h.1], fun j q hq => ?_⟩
  cases j with
  | zero =>
    simp only [List.getElem?_cons_zero, Option.some.injEq] at hq
    subst hq
    simpa using hp
  | succ j =>
    simp only [List.getElem?_cons_succ] at hq
    have h1 := h.2 j q hq
    simpa [Nat.mul_one] using h1
/-- More cells an element: told apart by the cells' list. -/
theorem Reps.front {α : Type} {R : α → List Value → Prop} {size : Nat} {ps : List α} {cs c all : List Value} {p : α} (hp : R p c) (hc : c.length = size) (h : Reps R size ps cs) (ha : c ++ cs = all) : Reps R size (p :: ps) all := by
  subst ha
  refine ⟨by rw [List.length_append, hc, h.1, List.length_cons, Nat.succ_mul, Nat.add_comm], fun j q hq => ?_⟩
  cases j with
  | zero =>
    simp only [List.getElem?_cons_zero, Option.some.injEq] at hq
    subst hq
    rw [Nat.zero_mul, List.drop_zero, List.take_append_of_le_length (by omega), List.take_of_length_le (by omega)]
    exact hp
  | succ j =>
    simp only [List.getElem?_cons_succ] at hq
    have h1 := h.2 j q hq
    rw [Nat.succ_mul, List.drop_append, List.drop_of_length_le (by rw [hc]; exact Nat.le_add_left _ _), List.nil_append, hc, Nat.add_sub_cancel]
    exact h1
theorem Reps.c2 {α : Type} {R : α → List Value → Prop} {ps : List α} {cs : List Value} {p : α} {va vb : Value} (hp : R p [va, vb]) (h : Reps R 2 ps cs) : Reps R 2 (p :: ps) (va :: vb :: cs) := Reps.front hp rfl h rfl
theorem Reps.c3 {α : Type} {R : α → List Value → Prop} {ps : List α} {cs : List Value} {p : α} {va vb vc : Value} (hp : R p [va, vb, vc]) (h : Reps R 3 ps cs) : Reps R 3 (p :: ps) (va :: vb :: vc :: cs) := Reps.front hp rfl h rfl
theorem Reps.c4 {α : Type} {R : α → List Value → Prop} {ps : List α} {cs : List Value} {p : α} {va vb vc vd : Value} (hp : R p [va, vb, vc, vd]) (h : Reps R 4 ps cs) : Reps R 4 (p :: ps) (va :: vb :: vc :: vd :: cs) := Reps.front hp rfl h rfl
theorem Reps.c5 {α : Type} {R : α → List Value → Prop} {ps : List α} {cs : List Value} {p : α} {va vb vc vd ve : Value} (hp : R p [va, vb, vc, vd, ve]) (h : Reps R 5 ps cs) : Reps R 5 (p :: ps) (va :: vb :: vc :: vd :: ve :: cs) := Reps.front hp rfl h rfl
theorem Reps.c6 {α : Type} {R : α → List Value → Prop} {ps : List α} {cs : List Value} {p : α} {va vb vc vd ve vf : Value} (hp : R p [va, vb, vc, vd, ve, vf]) (h : Reps R 6 ps cs) : Reps R 6 (p :: ps) (va :: vb :: vc :: vd :: ve :: vf :: cs) := Reps.front hp rfl h rfl
theorem Reps.c7 {α : Type} {R : α → List Value → Prop} {ps : List α} {cs : List Value} {p : α} {va vb vc vd ve vf vg : Value} (hp : R p [va, vb, vc, vd, ve, vf, vg]) (h : Reps R 7 ps cs) : Reps R 7 (p :: ps) (va :: vb :: vc :: vd :: ve :: vf :: vg :: cs) := Reps.front hp rfl h rfl
theorem Reps.c8 {α : Type} {R : α → List Value → Prop} {ps : List α} {cs : List Value} {p : α} {va vb vc vd ve vf vg vh : Value} (hp : R p [va, vb, vc, vd, ve, vf, vg, vh]) (h : Reps R 8 ps cs) : Reps R 8 (p :: ps) (va :: vb :: vc :: vd :: ve :: vf :: vg :: vh :: cs) := Reps.front hp rfl h rfl
theorem Reps.c9 {α : Type} {R : α → List Value → Prop} {ps : List α} {cs : List Value} {p : α} {va vb vc vd ve vf vg vh vi : Value} (hp : R p [va, vb, vc, vd, ve, vf, vg, vh, vi]) (h : Reps R 9 ps cs) : Reps R 9 (p :: ps) (va :: vb :: vc :: vd :: ve :: vf :: vg :: vh :: vi :: cs) := Reps.front hp rfl h rfl
end Go.Proofs.YtkpnfejfbmandaaDoorW.PrintWords

namespace Go.Proofs.YtkpnfejfbmandaaDoorW.PrintLast
set_option linter.unusedVariables false
set_option linter.unusedSimpArgs false
/-- Number i is listed too. -/
def up (b : Nat → Bool) (i : Nat) : Nat → Bool := fun j => if j = i then true else b j
section
variable {P : Program} {ops : Array Oper} {Q : Exit → Act → World → Prop} {md : Region.Mode} {T : Bool × List (List Nat × List Nat)} {B : List Nat} {O : List Nat} {b : Nat → Bool} {i j n : Nat}
end
end Go.Proofs.YtkpnfejfbmandaaDoorW.PrintLast

namespace Go.Proofs.YtkpnfejfbmandaaDoorW.PrintMore
set_option linter.unusedVariables false
set_option linter.unusedSimpArgs false
open Go.RowKit Go.Proofs.YtkpnfejfbmandaaDoorW.PrintWords
namespace Kd
open Go.Proofs.YtkpnfejfbmandaaDoorW.PrintWords.Kd
end Kd
namespace Kd
open Go.Proofs.YtkpnfejfbmandaaDoorW.PrintWords.Kd
section
variable {α : Type} {d : Kd α} {e base g N : Nat} {ok : Nat → Prop} {W w1 : World} {u v : Value} {xs : List α}
end
end Kd
/-- 'max' and 'min' of two whole numbers. -/
theorem max2_int (k k' : IntKind) (x y : Int) : Builtin.max2 (.int k x) (.int k' y) = pure (.int k (if x < y then y else x)) := by simp only [Builtin.max2, gt_iff_lt]
theorem min2_int (k k' : IntKind) (x y : Int) : Builtin.min2 (.int k x) (.int k' y) = pure (.int k (if y < x then y else x)) := by simp only [Builtin.min2]
theorem max_two (ats : Array TypeId) (ty : TypeId) (a b : Value) : Builtin.max_ ats ty #[a, b] = (Builtin.max2 a b >>= fun s => pure s) := by simp only [Builtin.max_, List.foldlM_cons, List.foldlM_nil]
theorem min_two (ats : Array TypeId) (ty : TypeId) (a b : Value) : Builtin.min_ ats ty #[a, b] = (Builtin.min2 a b >>= fun s => pure s) := by simp only [Builtin.min_, List.foldlM_cons, List.foldlM_nil]
theorem max_three (ats : Array TypeId) (ty : TypeId) (a b c : Value) : Builtin.max_ ats ty #[a, b, c] = (Builtin.max2 a b >>= fun s => Builtin.max2 s c >>= fun s => pure s) := by simp only [Builtin.max_, List.foldlM_cons, List.foldlM_nil]
theorem min_three (ats : Array TypeId) (ty : TypeId) (a b c : Value) : Builtin.min_ ats ty #[a, b, c] = (Builtin.min2 a b >>= fun s => Builtin.min2 s c >>= fun s => pure s) := by simp only [Builtin.min_, List.foldlM_cons, List.foldlM_nil]
theorem max_four (ats : Array TypeId) (ty : TypeId) (a b c d : Value) : Builtin.max_ ats ty #[a, b, c, d] = (Builtin.max2 a b >>= fun s => Builtin.max2 s c >>= fun s => Builtin.max2 s d >>= fun s => pure s) := by simp only [Builtin.max_, List.foldlM_cons, List.foldlM_nil]
theorem min_four (ats : Array TypeId) (ty : TypeId) (a b c d : Value) : Builtin.min_ ats ty #[a, b, c, d] = (Builtin.min2 a b >>= fun s => Builtin.min2 s c >>= fun s => Builtin.min2 s d >>= fun s => pure s) := by simp only [Builtin.min_, List.foldlM_cons, List.foldlM_nil]
end Go.Proofs.YtkpnfejfbmandaaDoorW.PrintMore
namespace Go.Proofs.YtkpnfejfbmandaaDoorW.PrintWords
open Go.RowKit
section
variable {P : Program} {ops : Array Oper} {rest : List Oper} {o : Oper} {a : Act} {Q : Exit → Act → World → Prop} {W : World}
end
/-- The greater of two whole numbers, as Go's max tells it. -/
def mx (a b : Int) : Int := if a < b then b else a
namespace Kd
section
variable {α : Type} {d : Kd α} {e base : Nat} {ok : Nat → Prop} {W w1 : World} {v : Value} {xs : List α}
end
section
variable {α : Type} {d : Kd α} {e base g n cap : Nat} {ok oki okp : Nat → Prop} {W : World} {xs : List α} {i : Int} {c : List Value}
end
section
variable {α : Type} {d : Kd α} {e base b b' g N : Nat} {ok ok1 : Nat → Prop} {W W2 w1 : World} {u v : Value} {xs ys : List α} {S : Nat → Prop}
end
end Kd
end Go.Proofs.YtkpnfejfbmandaaDoorW.PrintWords
namespace Go.Proofs.YtkpnfejfbmandaaDoorW.PrintWords
open Go.RowKit
namespace Kd
section
variable {α β : Type} {d : Kd α} {e base base' n m c g N' lo hi : Nat} {ok ok' S : Nat → Prop} {w W w1 : World} {A : Option Addr} {ad : Addr} {u v v1 : Value} {xs : List α}
end
end Kd
end Go.Proofs.YtkpnfejfbmandaaDoorW.PrintWords

namespace Go.Proofs.YtkpnfejfbmandaaDoor.Px
open Go.RowKit Go.Proofs.YtkpnfejfbmandaaDoorW.PrintWords Go.Proofs.YtkpnfejfbmandaaDoorW.PrintLast Go.Proofs.YtkpnfejfbmandaaDoorW.PrintMore
attribute [local go_sem] max2_int min2_int max_two min_two max_three min_three max_four min_four   -- for this text's walks alone
set_option linter.unusedVariables false
set_option linter.unusedSimpArgs false
def errW : Option Int → Value
  | none => .nilIface
  | some c => .iface 0 (.int .i64 c)
theorem errW_none : errW none = .nilIface := rfl
theorem errW_some (c : Int) : errW (some c) = .iface 0 (.int .i64 c) := rfl
structure S140 where
  f0 : Int
  f1 : Int
  f2 : ByteArray
  f3 : ByteArray
  f4 : Bool
def z140 : S140 := ⟨(0 : Int), (0 : Int), (⟨#[]⟩ : ByteArray), (⟨#[]⟩ : ByteArray), false⟩
def k140 : Kd S140 := Kd.iso (Kd.pair (Kd.int .i64) (Kd.pair (Kd.int .i64) (Kd.pair Kd.string (Kd.pair Kd.string Kd.bool)))) (fun x : S140 => (x.f0, x.f1, x.f2, x.f3, x.f4))
theorem k140_open {w : World} {x : S140} {cs : List Value} (h : k140.K w x cs) : cs = [.int .i64 x.f0, .int .i64 x.f1, .string x.f2, .string x.f3, .bool x.f4] := by
  obtain ⟨_, _, rfl, rfl, ⟨_, _, rfl, rfl, ⟨_, _, rfl, rfl, ⟨_, _, rfl, rfl, rfl⟩⟩⟩⟩ := h
  exact rfl
def rd_T140 (xs : List S140) (i : Int) : S140 := xs.getD i.toNat z140
theorem at_T140 {w : World} {A : Option Addr} {n : Nat} {xs : List S140} (h : Kd.C k140 w A n xs) (i : Int) (h0 : 0 ≤ i) (h1 : i < n) : ∃ ad , A = some ad ∧ w.cell? (ad.add (i.toNat * 5)) = some (.int .i64 (rd_T140 xs i).f0) ∧ w.cell? ⟨(ad.add (i.toNat * 5)).block, (ad.add (i.toNat * 5)).off + 1, none⟩ = some (.int .i64 (rd_T140 xs i).f1) ∧ w.cell? ⟨(ad.add (i.toNat * 5)).block, (ad.add (i.toNat * 5)).off + 2, none⟩ = some (.string (rd_T140 xs i).f2) ∧ w.cell? ⟨(ad.add (i.toNat * 5)).block, (ad.add (i.toNat * 5)).off + 3, none⟩ = some (.string (rd_T140 xs i).f3) ∧ w.cell? ⟨(ad.add (i.toNat * 5)).block, (ad.add (i.toNat * 5)).off + 4, none⟩ = some (.bool (rd_T140 xs i).f4) := by
  obtain ⟨ad, c, e, _, hK, hc0⟩ := Kd.C_get h z140 i h0 h1
  have hc : ∀ j u, c[j]? = some u → w.cell? (ad.add (i.toNat * 5 + j)) = some u := hc0
  obtain rfl := k140_open hK
  exact ⟨ad, e, hc 0 _ rfl, by rw [← add_field _ _ 1 (by omega)]; exact hc 1 _ rfl, by rw [← add_field _ _ 2 (by omega)]; exact hc 2 _ rfl, by rw [← add_field _ _ 3 (by omega)]; exact hc 3 _ rfl, by rw [← add_field _ _ 4 (by omega)]; exact hc 4 _ rfl⟩
structure S76 where
  f0 : Int
  f1 : Int
  f2 : ByteArray
  f3 : ByteArray
  f4 : Bool
def z76 : S76 := ⟨(0 : Int), (0 : Int), (⟨#[]⟩ : ByteArray), (⟨#[]⟩ : ByteArray), false⟩
def k76 : Kd S76 := Kd.iso (Kd.pair (Kd.int .i64) (Kd.pair (Kd.int .i64) (Kd.pair Kd.string (Kd.pair Kd.string Kd.bool)))) (fun x : S76 => (x.f0, x.f1, x.f2, x.f3, x.f4))
theorem k76_open {w : World} {x : S76} {cs : List Value} (h : k76.K w x cs) : cs = [.int .i64 x.f0, .int .i64 x.f1, .string x.f2, .string x.f3, .bool x.f4] := by
  obtain ⟨_, _, rfl, rfl, ⟨_, _, rfl, rfl, ⟨_, _, rfl, rfl, ⟨_, _, rfl, rfl, rfl⟩⟩⟩⟩ := h
  exact rfl
theorem k76_mkM (w : World) (base : Nat) (ok : Nat → Prop) (x : S76)  : k76.M w base ok x [.int .i64 x.f0, .int .i64 x.f1, .string x.f2, .string x.f3, .bool x.f4] := ⟨[.int .i64 x.f0], [.int .i64 x.f1, .string x.f2, .string x.f3, .bool x.f4], rfl, rfl, ⟨[.int .i64 x.f1], [.string x.f2, .string x.f3, .bool x.f4], rfl, rfl, ⟨[.string x.f2], [.string x.f3, .bool x.f4], rfl, rfl, ⟨[.string x.f3], [.bool x.f4], rfl, rfl, rfl⟩⟩⟩⟩
def rd_T76 (xs : List S76) (i : Int) : S76 := xs.getD i.toNat z76
theorem at_T76 {w : World} {A : Option Addr} {n : Nat} {xs : List S76} (h : Kd.C k76 w A n xs) (i : Int) (h0 : 0 ≤ i) (h1 : i < n) : ∃ ad , A = some ad ∧ w.cell? (ad.add (i.toNat * 5)) = some (.int .i64 (rd_T76 xs i).f0) ∧ w.cell? ⟨(ad.add (i.toNat * 5)).block, (ad.add (i.toNat * 5)).off + 1, none⟩ = some (.int .i64 (rd_T76 xs i).f1) ∧ w.cell? ⟨(ad.add (i.toNat * 5)).block, (ad.add (i.toNat * 5)).off + 2, none⟩ = some (.string (rd_T76 xs i).f2) ∧ w.cell? ⟨(ad.add (i.toNat * 5)).block, (ad.add (i.toNat * 5)).off + 3, none⟩ = some (.string (rd_T76 xs i).f3) ∧ w.cell? ⟨(ad.add (i.toNat * 5)).block, (ad.add (i.toNat * 5)).off + 4, none⟩ = some (.bool (rd_T76 xs i).f4) := by
  obtain ⟨ad, c, e, _, hK, hc0⟩ := Kd.C_get h z76 i h0 h1
  have hc : ∀ j u, c[j]? = some u → w.cell? (ad.add (i.toNat * 5 + j)) = some u := hc0
  obtain rfl := k76_open hK
  exact ⟨ad, e, hc 0 _ rfl, by rw [← add_field _ _ 1 (by omega)]; exact hc 1 _ rfl, by rw [← add_field _ _ 2 (by omega)]; exact hc 2 _ rfl, by rw [← add_field _ _ 3 (by omega)]; exact hc 3 _ rfl, by rw [← add_field _ _ 4 (by omega)]; exact hc 4 _ rfl⟩
structure S78 where
  f0 : Int
  f1 : Int
  f2 : ByteArray
  f3 : ByteArray
  f4 : Bool
  f5 : Bool
  f6 : (List S78)
  f7 : (List S78)
def z78 : S78 := ⟨(0 : Int), (0 : Int), (⟨#[]⟩ : ByteArray), (⟨#[]⟩ : ByteArray), false, false, ([] : List S78), ([] : List S78)⟩
def F78 (d : Kd S78) : Kd S78 := Kd.iso (Kd.pair (Kd.int .i64) (Kd.pair (Kd.int .i64) (Kd.pair Kd.string (Kd.pair Kd.string (Kd.pair Kd.bool (Kd.pair Kd.bool (Kd.pair (Kd.slice 78 d) (Kd.slice 78 d)))))))) (fun x : S78 => (x.f0, x.f1, x.f2, x.f3, x.f4, x.f5, x.f6, x.f7))
theorem mono78 : Kd.Mono F78 := Kd.mono_iso _ (Kd.mono_pair (Kd.mono_const _) (Kd.mono_pair (Kd.mono_const _) (Kd.mono_pair (Kd.mono_const _) (Kd.mono_pair (Kd.mono_const _) (Kd.mono_pair (Kd.mono_const _) (Kd.mono_pair (Kd.mono_const _) (Kd.mono_pair (Kd.mono_slice 78 Kd.mono_id) (Kd.mono_slice 78 Kd.mono_id))))))))
theorem sub78 : Kd.Sub F78 [78] := Kd.sub_iso _ (Kd.sub_pair (Kd.sub_const _ (by decide)) (Kd.sub_pair (Kd.sub_const _ (by decide)) (Kd.sub_pair (Kd.sub_const _ (by decide)) (Kd.sub_pair (Kd.sub_const _ (by decide)) (Kd.sub_pair (Kd.sub_const _ (by decide)) (Kd.sub_pair (Kd.sub_const _ (by decide)) (Kd.sub_pair (Kd.sub_slice 78 (by decide) Kd.sub_id) (Kd.sub_slice 78 (by decide) Kd.sub_id))))))))
theorem sz78 : ∀ n, (Kd.upto F78 8 [78] n).sz = 8 := Kd.upto_sz (fun _ => rfl)
def k78 : Kd S78 := Kd.fix F78 8 [78] sz78 (Kd.upto_E sub78)
theorem k78_open {w : World} {x : S78} {cs : List Value} (h : k78.K w x cs) : ∃ A6 c6 A7 c7, cs = [.int .i64 x.f0, .int .i64 x.f1, .string x.f2, .string x.f3, .bool x.f4, .bool x.f5, .slice A6 x.f6.length c6, .slice A7 x.f7.length c7] ∧ x.f6.length ≤ c6 ∧ k78.C w A6 x.f6.length x.f6 ∧ x.f7.length ≤ c7 ∧ k78.C w A7 x.f7.length x.f7 := by
  obtain ⟨n, h⟩ := h
  cases n with
  | zero => exact h.elim
  | succ n =>
    obtain ⟨_, _, rfl, rfl, ⟨_, _, rfl, rfl, ⟨_, _, rfl, rfl, ⟨_, _, rfl, rfl, ⟨_, _, rfl, rfl, ⟨_, _, rfl, rfl, ⟨_, _, rfl, ⟨A6, c6, rfl, l6, g6⟩, ⟨A7, c7, rfl, l7, g7⟩⟩⟩⟩⟩⟩⟩⟩ := h
    exact ⟨A6, c6, A7, c7, rfl, l6, Kd.fix_C g6, l7, Kd.fix_C g7⟩
theorem k78_mk (w : World) (x : S78) {A6 : Option Addr} {c6 : Nat} (l6 : x.f6.length ≤ c6) (g6 : k78.C w A6 x.f6.length x.f6) {A7 : Option Addr} {c7 : Nat} (l7 : x.f7.length ≤ c7) (g7 : k78.C w A7 x.f7.length x.f7) : k78.K w x [.int .i64 x.f0, .int .i64 x.f1, .string x.f2, .string x.f3, .bool x.f4, .bool x.f5, .slice A6 x.f6.length c6, .slice A7 x.f7.length c7] := by
  obtain ⟨n6, q6⟩ := Kd.fix_C_back mono78 g6
  obtain ⟨n7, q7⟩ := Kd.fix_C_back mono78 g7
  have r6 := Kd.upto_C_le mono78 sz78 (show n6 ≤ (max n6 n7) by omega) q6
  have r7 := Kd.upto_C_le mono78 sz78 (show n7 ≤ (max n6 n7) by omega) q7
  exact ⟨(max n6 n7) + 1, ⟨[.int .i64 x.f0], [.int .i64 x.f1, .string x.f2, .string x.f3, .bool x.f4, .bool x.f5, .slice A6 x.f6.length c6, .slice A7 x.f7.length c7], rfl, rfl, ⟨[.int .i64 x.f1], [.string x.f2, .string x.f3, .bool x.f4, .bool x.f5, .slice A6 x.f6.length c6, .slice A7 x.f7.length c7], rfl, rfl, ⟨[.string x.f2], [.string x.f3, .bool x.f4, .bool x.f5, .slice A6 x.f6.length c6, .slice A7 x.f7.length c7], rfl, rfl, ⟨[.string x.f3], [.bool x.f4, .bool x.f5, .slice A6 x.f6.length c6, .slice A7 x.f7.length c7], rfl, rfl, ⟨[.bool x.f4], [.bool x.f5, .slice A6 x.f6.length c6, .slice A7 x.f7.length c7], rfl, rfl, ⟨[.bool x.f5], [.slice A6 x.f6.length c6, .slice A7 x.f7.length c7], rfl, rfl, ⟨[.slice A6 x.f6.length c6], [.slice A7 x.f7.length c7], rfl, ⟨A6, c6, rfl, l6, r6⟩, ⟨A7, c7, rfl, l7, r7⟩⟩⟩⟩⟩⟩⟩⟩⟩
theorem k78_mkM (w : World) (base : Nat) (ok : Nat → Prop) (x : S78) {v6 : Value} (g6 : k78.R 78 w base ok v6 x.f6) {v7 : Value} (g7 : k78.R 78 w base ok v7 x.f7) : k78.M w base ok x [.int .i64 x.f0, .int .i64 x.f1, .string x.f2, .string x.f3, .bool x.f4, .bool x.f5, v6, v7] := by
  obtain ⟨n6, q6⟩ := Kd.fix_R_back mono78 g6
  obtain ⟨n7, q7⟩ := Kd.fix_R_back mono78 g7
  have r6 := Kd.upto_R_le mono78 sz78 (show n6 ≤ (max n6 n7) by omega) q6
  have r7 := Kd.upto_R_le mono78 sz78 (show n7 ≤ (max n6 n7) by omega) q7
  exact ⟨(max n6 n7) + 1, ⟨[.int .i64 x.f0], [.int .i64 x.f1, .string x.f2, .string x.f3, .bool x.f4, .bool x.f5, v6, v7], rfl, rfl, ⟨[.int .i64 x.f1], [.string x.f2, .string x.f3, .bool x.f4, .bool x.f5, v6, v7], rfl, rfl, ⟨[.string x.f2], [.string x.f3, .bool x.f4, .bool x.f5, v6, v7], rfl, rfl, ⟨[.string x.f3], [.bool x.f4, .bool x.f5, v6, v7], rfl, rfl, ⟨[.bool x.f4], [.bool x.f5, v6, v7], rfl, rfl, ⟨[.bool x.f5], [v6, v7], rfl, rfl, ⟨[v6], [v7], rfl, ⟨v6, rfl, r6⟩, ⟨v7, rfl, r7⟩⟩⟩⟩⟩⟩⟩⟩⟩
def rd_T78 (xs : List S78) (i : Int) : S78 := xs.getD i.toNat z78
theorem at_T78 {w : World} {A : Option Addr} {n : Nat} {xs : List S78} (h : Kd.C k78 w A n xs) (i : Int) (h0 : 0 ≤ i) (h1 : i < n) : ∃ ad A6 c6 A7 c7, A = some ad ∧ w.cell? (ad.add (i.toNat * 8)) = some (.int .i64 (rd_T78 xs i).f0) ∧ w.cell? ⟨(ad.add (i.toNat * 8)).block, (ad.add (i.toNat * 8)).off + 1, none⟩ = some (.int .i64 (rd_T78 xs i).f1) ∧ w.cell? ⟨(ad.add (i.toNat * 8)).block, (ad.add (i.toNat * 8)).off + 2, none⟩ = some (.string (rd_T78 xs i).f2) ∧ w.cell? ⟨(ad.add (i.toNat * 8)).block, (ad.add (i.toNat * 8)).off + 3, none⟩ = some (.string (rd_T78 xs i).f3) ∧ w.cell? ⟨(ad.add (i.toNat * 8)).block, (ad.add (i.toNat * 8)).off + 4, none⟩ = some (.bool (rd_T78 xs i).f4) ∧ w.cell? ⟨(ad.add (i.toNat * 8)).block, (ad.add (i.toNat * 8)).off + 5, none⟩ = some (.bool (rd_T78 xs i).f5) ∧ w.cell? ⟨(ad.add (i.toNat * 8)).block, (ad.add (i.toNat * 8)).off + 6, none⟩ = some (.slice A6 (rd_T78 xs i).f6.length c6) ∧ w.cell? ⟨(ad.add (i.toNat * 8)).block, (ad.add (i.toNat * 8)).off + 7, none⟩ = some (.slice A7 (rd_T78 xs i).f7.length c7) ∧ (rd_T78 xs i).f6.length ≤ c6 ∧ k78.C w A6 (rd_T78 xs i).f6.length (rd_T78 xs i).f6 ∧ (rd_T78 xs i).f7.length ≤ c7 ∧ k78.C w A7 (rd_T78 xs i).f7.length (rd_T78 xs i).f7 := by
  obtain ⟨ad, c, e, _, hK, hc0⟩ := Kd.C_get h z78 i h0 h1
  have hc : ∀ j u, c[j]? = some u → w.cell? (ad.add (i.toNat * 8 + j)) = some u := hc0
  obtain ⟨A6, c6, A7, c7, rfl, l6, g6, l7, g7⟩ := k78_open hK
  exact ⟨ad, A6, c6, A7, c7, e, hc 0 _ rfl, by rw [← add_field _ _ 1 (by omega)]; exact hc 1 _ rfl, by rw [← add_field _ _ 2 (by omega)]; exact hc 2 _ rfl, by rw [← add_field _ _ 3 (by omega)]; exact hc 3 _ rfl, by rw [← add_field _ _ 4 (by omega)]; exact hc 4 _ rfl, by rw [← add_field _ _ 5 (by omega)]; exact hc 5 _ rfl, by rw [← add_field _ _ 6 (by omega)]; exact hc 6 _ rfl, by rw [← add_field _ _ 7 (by omega)]; exact hc 7 _ rfl, l6, g6, l7, g7⟩
end Go.Proofs.YtkpnfejfbmandaaDoor.Px

namespace Go.Proofs.YtkpnfejfbmandaaDoor.Px
open Go.RowKit Go.Proofs.YtkpnfejfbmandaaDoorW.PrintWords Go.Proofs.YtkpnfejfbmandaaDoorW.PrintLast Go.Proofs.YtkpnfejfbmandaaDoorW.PrintMore
attribute [local go_sem] max2_int min2_int max_two min_two max_three min_three max_four min_four   -- for this text's walks alone
set_option linter.unusedVariables false
set_option linter.unusedSimpArgs false
def value_letter.f (a0 : Int) : Option (Bool) := if a0 ≥ 97 then (if a0 ≤ 122 then (some true) else (if a0 ≥ 65 then (some (decide (a0 ≤ 90))) else (some false))) else (if a0 ≥ 65 then (some (decide (a0 ≤ 90))) else (some false))
set_option maxHeartbeats 8000000 in
set_option maxRecDepth 100000 in
theorem value_letter.calls (a0 : Int) (r : Bool) (w : World) (h : value_letter.f a0 = some r) :
    Calls Tryd.prog 91 #[.int .i32 a0] w fun e w' => e = .returned (.bool r) ∧ Drawn0 w w' := by
  have H : (if a0 ≥ 97 then (if a0 ≤ 122 then (some true) else (if a0 ≥ 65 then (some (decide (a0 ≤ 90))) else (some false))) else (if a0 ≥ 65 then (some (decide (a0 ≤ 90))) else (some false))) = some r := h
  clear h
  by_cases c2 : a0 ≥ 97
  · rw [if_pos c2] at H
    have c2b0 : decide (97 ≤ a0) = true := decide_eq_true c2
    clear c2
    by_cases c3 : a0 ≤ 122
    · rw [if_pos c3] at H
      have c3b0 : decide (a0 ≤ 122) = true := decide_eq_true c3
      clear c3
      obtain rfl := Option.some.inj H
      go_enter Tryd.func91, Tryd.ntmps91
      go_wp2
      go_ret
      exact ⟨by first | rfl | (simp; done) | (simp [*]; done), by repeat (first | exact Drawn0.refl _ | apply Drawn0.step)⟩
    · rw [if_neg c3] at H
      have c3b0 : decide (a0 ≤ 122) = false := decide_eq_false c3
      clear c3
      by_cases c4 : a0 ≥ 65
      · rw [if_pos c4] at H
        have c4b0 : decide (65 ≤ a0) = true := decide_eq_true c4
        clear c4
        obtain rfl := Option.some.inj H
        go_enter Tryd.func91, Tryd.ntmps91
        go_wp2
        go_ret
        exact ⟨by first | rfl | (simp; done) | (simp [*]; done), by repeat (first | exact Drawn0.refl _ | apply Drawn0.step)⟩
      · rw [if_neg c4] at H
        have c4b0 : decide (65 ≤ a0) = false := decide_eq_false c4
        clear c4
        obtain rfl := Option.some.inj H
        go_enter Tryd.func91, Tryd.ntmps91
        go_wp2
        go_ret
        exact ⟨by first | rfl | (simp; done) | (simp [*]; done), by repeat (first | exact Drawn0.refl _ | apply Drawn0.step)⟩
  · rw [if_neg c2] at H
    have c2b0 : decide (97 ≤ a0) = false := decide_eq_false c2
    clear c2
    by_cases c5 : a0 ≥ 65
    · rw [if_pos c5] at H
      have c5b0 : decide (65 ≤ a0) = true := decide_eq_true c5
      clear c5
      obtain rfl := Option.some.inj H
      go_enter Tryd.func91, Tryd.ntmps91
      go_wp2
      go_ret
      exact ⟨by first | rfl | (simp; done) | (simp [*]; done), by repeat (first | exact Drawn0.refl _ | apply Drawn0.step)⟩
    · rw [if_neg c5] at H
      have c5b0 : decide (65 ≤ a0) = false := decide_eq_false c5
      clear c5
      obtain rfl := Option.some.inj H
      go_enter Tryd.func91, Tryd.ntmps91
      go_wp2
      go_ret
      exact ⟨by first | rfl | (simp; done) | (simp [*]; done), by repeat (first | exact Drawn0.refl _ | apply Drawn0.step)⟩
end Go.Proofs.YtkpnfejfbmandaaDoor.Px

/- Merged texts: U Kw La Lc. -/
/- Small lemmas on worlds, states and rows that the walks of this seat use. -/
namespace Go.Proofs.YtkpnfejfbmandaaDoor.Px
open Go.RowKit Go.Proofs.YtkpnfejfbmandaaDoorW.PrintWords Go.Proofs.YtkpnfejfbmandaaDoorW.PrintLast Go.Proofs.YtkpnfejfbmandaaDoorW.PrintMore
set_option linter.unusedVariables false
set_option linter.unusedSimpArgs false
/-- A state's block g (type t, cells cs) in the world W; since the call began in w nothing else that lay has turned. w0: an elder world, in which what the state leads to was read. -/
structure Stp (w0 w : World) (g t : Nat) (cs : Array Value) (W : World) : Prop where
  blk : W.heap[g]? = some (.cells cs t (0, 0))
  keep : KeepBut w W g none
  bel : Below w0.heap.size w0 W
  ge : w0.heap.size ≤ g
  le : w0.heap.size ≤ w.heap.size
theorem blk_new' {w : World} {o : Obj} {k : Nat} (h : w.heap.size = k) : (w.alloc o).heap[k]? = some o := h ▸ blk_new w o
theorem blk_set8 {w : World} {g t : Nat} {cs : Array Value} (h : w.heap[g]? = some (.cells cs t (0, 0))) (hs : cs.size = 8) (a b c d e f p q : Value) :
    ((((((((w.setCell ⟨g, 0, none⟩ a).setCell ⟨g, 1, none⟩ b).setCell ⟨g, 2, none⟩ c).setCell ⟨g, 3, none⟩ d).setCell ⟨g, 4, none⟩ e).setCell ⟨g, 5, none⟩ f).setCell ⟨g, 6, none⟩ p).setCell ⟨g, 7, none⟩ q).heap[g]? = some (.cells #[a, b, c, d, e, f, p, q] t (0, 0)) := by
  have h8 := blk_set (blk_set (blk_set (blk_set (blk_set (blk_set (blk_set (blk_set h 0 a) 1 b) 2 c) 3 d) 4 e) 5 f) 6 p) 7 q
  refine h8.trans (congrArg (fun x => some (Obj.cells x t (0, 0))) ?_)
  clear h h8
  obtain ⟨l⟩ := cs
  match l, hs with
  | [x0, x1, x2, x3, x4, x5, x6, x7], _ => simp only [List.setIfInBounds_toArray, List.set_cons_zero, List.set_cons_succ]
theorem blk_far' {w : World} {g t : Nat} {cs : Array Value} (h : w.heap[g]? = some (.cells cs t (0, 0))) {k j : Nat} (hp : g ≠ k) (u : Value) : (w.setCell ⟨k, j, none⟩ u).heap[g]? = some (.cells cs t (0, 0)) := blk_far h hp u
namespace Stp
variable {w0 w W : World} {g t : Nat} {cs : Array Value}
theorem start (hb : W.heap[g]? = some (.cells cs t (0, 0))) (hB : Below w0.heap.size w0 W) (hg : w0.heap.size ≤ g) : Stp w0 W g t cs W := ⟨hb, KeepBut.refl _ _ _, hB, hg, hB.size⟩
theorem alloc (h : Stp w0 w g t cs W) (o : Obj) : Stp w0 w g t cs (W.alloc o) := ⟨blk_alloc h.blk o, keep_alloc h.keep o, below_alloc h.bel o, h.ge, h.le⟩
theorem drew (h : Stp w0 w g t cs W) : Stp w0 w g t cs W.drew := ⟨h.blk, keep_drew h.keep, h.bel.drew, h.ge, h.le⟩
theorem drewN (h : Stp w0 w g t cs W) (n : Nat) : Stp w0 w g t cs (W.drewN n) := ⟨h.blk, keep_drewN h.keep n, pw_below_drewN h.bel n, h.ge, h.le⟩
theorem lt (h : Stp w0 w g t cs W) : g < W.heap.size := blk_lt h.blk
theorem size (h : Stp w0 w g t cs W) : w.heap.size ≤ W.heap.size := h.keep.1
/-- A store into a block that is new since the call began. -/
theorem far (h : Stp w0 w g t cs W) {p : Addr} (hp : w.heap.size ≤ p.block) (hne : g ≠ p.block) (u : Value) : Stp w0 w g t cs (W.setCell p u) :=
  ⟨blk_far h.blk hne u, keep_far h.keep hp u, h.bel.setCell (Nat.le_trans h.le hp) u, h.ge, h.le⟩
theorem far' (h : Stp w0 w g t cs W) {k j : Nat} (hp : w.heap.size ≤ k) (hne : g ≠ k) (u : Value) : Stp w0 w g t cs (W.setCell ⟨k, j, none⟩ u) := h.far hp hne u
/-- A store into the state. -/
theorem set (h : Stp w0 w g t cs W) (i : Nat) (u : Value) : Stp w0 w g t (cs.setIfInBounds i u) (W.setCell ⟨g, i, none⟩ u) :=
  ⟨blk_set h.blk i u, h.keep.set_ i u, h.bel.setCell h.ge u, h.ge, h.le⟩
theorem grown (h : Stp w0 w g t cs W) {W2 : World} {row : Option Nat} (hg : W.grownBy W2 row) (hr : ∀ k, row = some k → w.heap.size ≤ k) (hgw : g < w.heap.size) : Stp w0 w g t cs W2 :=
  ⟨blk_grown h.blk hg (fun e => by have := hr g e.symm; omega), h.keep.trans (KeepBut.of_grown hg g) (by
    cases row with
    | none => exact .inl rfl
    | some k => exact .inr ⟨k, rfl, hr k rfl⟩), h.bel.grown hg h.bel.size (fun k e => Nat.le_trans h.le (hr k e)), h.ge, h.le⟩
/-- A call that was handed the state. -/
theorem call (h : Stp w0 w g t cs W) {W2 : World} {cs2 : Array Value} (h2 : Stp w0 W g t cs2 W2) : Stp w0 w g t cs2 W2 := ⟨h2.blk, h.keep.trans h2.keep (.inl rfl), h2.bel, h.ge, h.le⟩
/-- A call that knows nothing of the state. -/
theorem below (h : Stp w0 w g t cs W) {W2 : World} (h2 : Below W.heap.size W W2) : Stp w0 w g t cs W2 := ⟨blk_below h.blk h2, h.keep.trans (KeepBut.of_below h2 g none) (.inl rfl), below_weaken h.bel h.bel.size h2, h.ge, h.le⟩
theorem cell (h : Stp w0 w g t cs W) (i : Nat) : W.cell? ⟨g, i, none⟩ = cs[i]? := blk_cell h.blk i
theorem frozen (h : Stp w0 w g t cs W) (i : Nat) : W.frozen? ⟨g, i, none⟩ = false := blk_frozen h.blk i
theorem cast (h : Stp w0 w g t cs W) {cs' : Array Value} (e : cs = cs') : Stp w0 w g t cs' W := e ▸ h
theorem other (h : Stp w0 w g t cs W) {k : Nat} {o : Obj} (hb : w.heap[k]? = some o) (hk : k ≠ g) : W.heap[k]? = some o := (h.keep.2 k (blk_lt hb) hk (by simp)).trans hb
theorem again (h : Stp w0 w g t cs W) : Stp w0 W g t cs W := ⟨h.blk, KeepBut.refl _ _ _, h.bel, h.ge, h.bel.size⟩
/-- What was read in w0 reads so still. -/
theorem old (h : Stp w0 w g t cs W) {a : Addr} {v : Value} (hc : w0.cell? a = some v) : W.cell? a = some v := (h.bel.cell (World.block_lt_of_cell? _ _ hc)).trans hc
end Stp
/-- A row of the call's own while a call that may write block g alone has run: its blocks are new since an elder world of size B, g lay before. -/
theorem R_keepBut {α : Type} {d : Kd α} {e B : Nat} {W W2 : World} {g : Nat} {v : Value} {xs : List α} (h : d.R e W B (fun _ => True) v xs) (hk : KeepBut W W2 g none) (hg : g < B) : d.R e W2 B (fun _ => True) v xs :=
  Kd.R_mono (Kd.R_keep (Kd.R_bound h) hk (fun k hk => by have := hk.2.1; omega)) (fun _ _ => trivial)
theorem R_farB {α : Type} {d : Kd α} {e B : Nat} {W : World} {v : Value} {xs : List α} (h : d.R e W B (fun _ => True) v xs) {k j : Nat} (hk : k < B) (u : Value) : d.R e (W.setCell ⟨k, j, none⟩ u) B (fun _ => True) v xs :=
  Kd.R_mono (Kd.R_far (p := ⟨k, j, none⟩) (Kd.R_bound h) (fun q hq => by have := hq.2.1; show q ≠ k; omega) u) (fun _ _ => trivial)
/-- A row whose blocks are new since B, another row of that kind being one that was made before W. -/
theorem R_apart {α β : Type} {d : Kd α} {d' : Kd β} {e e' B B' : Nat} {W W2 : World} {v u : Value} {xs : List α} {ys : List β} (h : d.R e W2 W.heap.size (fun _ => True) v xs) (hu : d'.R e' W B' (fun _ => True) u ys) (hB : B ≤ W.heap.size) : d.R e W2 B (fun k => some k ≠ u.ownBlock) v xs :=
  Kd.R_lower (Kd.R_mono (Kd.R_newR h hu) (fun _ hk => hk.2)) hB
end Go.Proofs.YtkpnfejfbmandaaDoor.Px
/- Contract of lex.keywords. -/
namespace Go.Proofs.YtkpnfejfbmandaaDoor.Px
open Go.RowKit Go.Proofs.YtkpnfejfbmandaaDoorW.PrintWords Go.Proofs.YtkpnfejfbmandaaDoorW.PrintLast Go.Proofs.YtkpnfejfbmandaaDoorW.PrintMore
open Go.Maps (Keyed)
set_option linter.unusedVariables false
set_option linter.unusedSimpArgs false
/-- 'T{k: v}' at the operation: as wpList_mapUpdate_own, for the insert of a literal. -/
theorem wpList_insert_own {H : Type} {P : Program} (w : World) {ops : Array Oper} {rest : List Oper} {o : Oper} {a : Act} {Q : Exit → Act → World → Prop}
    (hg : o.guard = none) (m x v : Operand) (t : TypeId) (hop : o.op = Op.insert t m x v)
    (k e : TypeId) (K : Keyed P k) (ht : P.underlying t = some (.map k e)) (R : Value → Option (DataW H × List MemPlace)) (b n : Nat) (D : DataW H)
    (hm : a.eval m = .map (some b)) (hown : w.ownsMap P k R b n D) (hn : n < maxLen) (key val : Value) (kl : Lit) (hx : a.eval x = key) (hv : a.eval v = val) (hkey : keyOf P k key = some kl)
    (d : DataW H) (ps : List MemPlace) (hval : R val = some (d, ps))
    (hK : ∀ w', w'.ownsMap P k R b (n + 1) (D.put kl d) → w.grownBy w' (some b) → wpList P ops Q rest (a.put o.dst undef) w') :
    wpList P ops Q (o :: rest) a w := by
  refine wpList_plain hg fun K' hK' => ?_
  obtain ⟨w', hrun, r1, r2⟩ := hown.update K ht hn hkey hval
  unfold Oper.wp
  simp [execOp, hop, hm, hx, hv, hrun, Result.andThen]
  exact hK' _ _ (hK w' r1 r2)
def kwList : List (List UInt8 × Int) := [([99, 97, 108, 108], 4), ([100, 101, 102, 105, 110, 101], 6), ([101, 108, 115, 101], 7), ([101, 110, 100], 8), ([102, 108, 117, 115, 104], 5), ([105, 102], 2), ([114, 97, 110, 103, 101], 3)]
def kwD : DataW Unit := .map (kwList.map fun p => (.string p.1, .lit (.int .i64 p.2)))
def kwD0 : DataW Unit := ((((((((DataW.map []).put (.string [105, 102]) (.lit (.int .i64 2))).put (.string [114, 97, 110, 103, 101]) (.lit (.int .i64 3))).put (.string [99, 97, 108, 108]) (.lit (.int .i64 4))).put (.string [102, 108, 117, 115, 104]) (.lit (.int .i64 5))).put (.string [100, 101, 102, 105, 110, 101]) (.lit (.int .i64 6))).put (.string [101, 108, 115, 101]) (.lit (.int .i64 7))).put (.string [101, 110, 100]) (.lit (.int .i64 8)))
theorem kwD_eq : kwD0 = kwD := by rfl
theorem law9 : Keyed Tryd.prog 9 := Maps.string_keyed Tryd.underlying9
theorem kwKey (l : List UInt8) (h : l.length ≤ 100) : keyOf Tryd.prog 9 (.string ⟨l.toArray⟩) = some (.string l) := by
  have := Go.WideMaps.keyOf_string_mk (s := ⟨l.toArray⟩) Tryd.underlying9 (by unfold maxLen; show l.toArray.size ≤ _; simp; omega)
  simpa using this
set_option maxHeartbeats 1000000 in
theorem keywords_any (w : World) : Calls Tryd.prog 71 #[] w fun e w' => e = .returned (.map (some w.heap.size)) ∧ w'.ownsMap Tryd.prog 9 (plainElem (H := Unit) Tryd.prog 3) w.heap.size 7 kwD ∧ Below w.heap.size w w' := by
  have hmm := @run_makeMap Tryd.prog
  have hB0 := Aside0.mk ((Below.refl w.heap.size w).alloc (Nat.le_refl _) (.map #[] 0))
  have hO0 := Aside0.mk (World.ownsMap_made w Tryd.prog 9 (plainElem (H := Unit) Tryd.prog 3))
  go_enter Tryd.func71, Tryd.ntmps71
  go_wp2_with (first | (refine wpList_insert_own _ rfl (.tmp 1) (.const (.string ⟨#[105, 102]⟩)) (.const (.int .i64 2)) 127 rfl 9 3 law9 Tryd.underlying127 _ w.heap.size 0 _ rfl hO0.out (by unfold maxLen; omega) _ _ _ rfl rfl (kwKey [105, 102] (by decide)) _ [] (plainElem_int Tryd.underlying3 (by decide)) ?_; intro w1 q1 g1; have hB1 := Aside0.mk (hB0.out.grown g1 hB0.out.size (fun k e => by cases e; exact Nat.le_refl _)); have hO1 := Aside0.mk q1; clear q1 g1 hO0 hB0) | (refine wpList_insert_own _ rfl (.tmp 1) (.const (.string ⟨#[114, 97, 110, 103, 101]⟩)) (.const (.int .i64 3)) 127 rfl 9 3 law9 Tryd.underlying127 _ w.heap.size 1 _ rfl hO1.out (by unfold maxLen; omega) _ _ _ rfl rfl (kwKey [114, 97, 110, 103, 101] (by decide)) _ [] (plainElem_int Tryd.underlying3 (by decide)) ?_; intro w2 q2 g2; have hB2 := Aside0.mk (hB1.out.grown g2 hB1.out.size (fun k e => by cases e; exact Nat.le_refl _)); have hO2 := Aside0.mk q2; clear q2 g2 hO1 hB1) | (refine wpList_insert_own _ rfl (.tmp 1) (.const (.string ⟨#[99, 97, 108, 108]⟩)) (.const (.int .i64 4)) 127 rfl 9 3 law9 Tryd.underlying127 _ w.heap.size 2 _ rfl hO2.out (by unfold maxLen; omega) _ _ _ rfl rfl (kwKey [99, 97, 108, 108] (by decide)) _ [] (plainElem_int Tryd.underlying3 (by decide)) ?_; intro w3 q3 g3; have hB3 := Aside0.mk (hB2.out.grown g3 hB2.out.size (fun k e => by cases e; exact Nat.le_refl _)); have hO3 := Aside0.mk q3; clear q3 g3 hO2 hB2) | (refine wpList_insert_own _ rfl (.tmp 1) (.const (.string ⟨#[102, 108, 117, 115, 104]⟩)) (.const (.int .i64 5)) 127 rfl 9 3 law9 Tryd.underlying127 _ w.heap.size 3 _ rfl hO3.out (by unfold maxLen; omega) _ _ _ rfl rfl (kwKey [102, 108, 117, 115, 104] (by decide)) _ [] (plainElem_int Tryd.underlying3 (by decide)) ?_; intro w4 q4 g4; have hB4 := Aside0.mk (hB3.out.grown g4 hB3.out.size (fun k e => by cases e; exact Nat.le_refl _)); have hO4 := Aside0.mk q4; clear q4 g4 hO3 hB3) | (refine wpList_insert_own _ rfl (.tmp 1) (.const (.string ⟨#[100, 101, 102, 105, 110, 101]⟩)) (.const (.int .i64 6)) 127 rfl 9 3 law9 Tryd.underlying127 _ w.heap.size 4 _ rfl hO4.out (by unfold maxLen; omega) _ _ _ rfl rfl (kwKey [100, 101, 102, 105, 110, 101] (by decide)) _ [] (plainElem_int Tryd.underlying3 (by decide)) ?_; intro w5 q5 g5; have hB5 := Aside0.mk (hB4.out.grown g5 hB4.out.size (fun k e => by cases e; exact Nat.le_refl _)); have hO5 := Aside0.mk q5; clear q5 g5 hO4 hB4) | (refine wpList_insert_own _ rfl (.tmp 1) (.const (.string ⟨#[101, 108, 115, 101]⟩)) (.const (.int .i64 7)) 127 rfl 9 3 law9 Tryd.underlying127 _ w.heap.size 5 _ rfl hO5.out (by unfold maxLen; omega) _ _ _ rfl rfl (kwKey [101, 108, 115, 101] (by decide)) _ [] (plainElem_int Tryd.underlying3 (by decide)) ?_; intro w6 q6 g6; have hB6 := Aside0.mk (hB5.out.grown g6 hB5.out.size (fun k e => by cases e; exact Nat.le_refl _)); have hO6 := Aside0.mk q6; clear q6 g6 hO5 hB5) | (refine wpList_insert_own _ rfl (.tmp 1) (.const (.string ⟨#[101, 110, 100]⟩)) (.const (.int .i64 8)) 127 rfl 9 3 law9 Tryd.underlying127 _ w.heap.size 6 _ rfl hO6.out (by unfold maxLen; omega) _ _ _ rfl rfl (kwKey [101, 110, 100] (by decide)) _ [] (plainElem_int Tryd.underlying3 (by decide)) ?_; intro w7 q7 g7; have hB7 := Aside0.mk (hB6.out.grown g7 hB6.out.size (fun k e => by cases e; exact Nat.le_refl _)); have hO7 := Aside0.mk q7; clear q7 g7 hO6 hB6))
  go_ret
  exact ⟨rfl, by rw [← kwD_eq]; exact hO7.out, hB7.out⟩
theorem kw_mem {l : List UInt8} (h : Maps.has kwD (.string l) = true) : ∃ c, (l, c) ∈ kwList := by
  unfold kwD at h
  rw [Maps.has_eq, List.any_map, List.any_eq_true] at h
  obtain ⟨p, hp, he⟩ := h
  have : p.1 = l := by simpa [Lit.sameKey] using he
  subst this
  exact ⟨p.2, hp⟩
theorem kw_has {l : List UInt8} {c : Int} (h : (l, c) ∈ kwList) : Maps.has kwD (.string l) = true := by
  unfold kwD
  rw [Maps.has_eq, List.any_map, List.any_eq_true]
  exact ⟨_, h, by simp [Lit.sameKey]⟩
theorem kw_at {l : List UInt8} {c : Int} (h : (l, c) ∈ kwList) (zd : DataW Unit) : kwD.atKey (.string l) zd = .lit (.int .i64 c) := by
  simp only [kwList, List.mem_cons, Prod.mk.injEq, List.not_mem_nil, or_false] at h
  rcases h with ⟨rfl, rfl⟩ | ⟨rfl, rfl⟩ | ⟨rfl, rfl⟩ | ⟨rfl, rfl⟩ | ⟨rfl, rfl⟩ | ⟨rfl, rfl⟩ | ⟨rfl, rfl⟩ <;> rfl
def kwOf (k : Int) : Option (List UInt8) := (kwList.find? (fun p => p.2 == k)).map (·.1)
theorem kwOf_mem {k : Int} {s : List UInt8} (h : kwOf k = some s) : (s, k) ∈ kwList := by
  unfold kwOf at h
  obtain ⟨p, hp, rfl⟩ := Option.map_eq_some_iff.1 h
  have h1 := List.mem_of_find?_eq_some hp
  have h2 := List.find?_some hp
  simp only [beq_iff_eq] at h2
  rw [← h2]
  exact h1
end Go.Proofs.YtkpnfejfbmandaaDoor.Px
/- What lex.Lex tells, over lists of bytes, and the plain laws on it. -/
namespace Go.Proofs.YtkpnfejfbmandaaDoor.Px
open Go.RowKit Go.Proofs.YtkpnfejfbmandaaDoorW.PrintWords Go.Proofs.YtkpnfejfbmandaaDoorW.PrintLast Go.Proofs.YtkpnfejfbmandaaDoorW.PrintMore
set_option linter.unusedVariables false
set_option linter.unusedSimpArgs false
/-- A letter; a name. -/
def letB (b : UInt8) : Bool := (decide (97 ≤ b.toNat) && decide (b.toNat ≤ 122)) || (decide (65 ≤ b.toNat) && decide (b.toNat ≤ 90))
def digB (b : UInt8) : Bool := decide (48 ≤ b.toNat) && decide (b.toNat ≤ 57)
def nmGo : Bool → List UInt8 → Bool
  | _, [] => true
  | first, b :: r => (letB b || (!first && (b == 95 || digB b))) && nmGo false r
def nameL (s : List UInt8) : Bool := !s.isEmpty && (decide (s.length ≤ 32) && nmGo true s)
/-- A path. -/
def pathL (s : List UInt8) : Bool := s.isEmpty || (decide ((Lib.split s [46]).length ≤ 8) && (Lib.split s [46]).all nameL)
/-- The words between spaces. -/
def wordCons (cur : List UInt8) (l : List (List UInt8)) : List (List UInt8) := if cur = [] then l else cur :: l
def fieldsG : List UInt8 → List UInt8 → List (List UInt8)
  | [], cur => wordCons cur []
  | b :: r, cur => if b = 32 then wordCons cur (fieldsG r []) else fieldsG r (cur ++ [b])
/-- A token without its offset: kind, name, path, whether it has a path. -/
abbrev T4 := Int × List UInt8 × List UInt8 × Bool
def zeroT : T4 := (0, [], [], false)
def kwKind (w : List UInt8) : Option Int := (kwList.find? (fun p => p.1 == w)).map (·.2)
def named (k : Int) : Bool := k == 4 || k == 6
def leastOf (k : Int) : Nat := if k = 1 ∨ k = 2 ∨ k = 3 then 1 else 0
def mostOf (k : Int) : Nat := if k = 1 ∨ k = 2 ∨ k = 3 ∨ k = 4 then 1 else 0
def dirE (k : Int) (s p : List UInt8) (h : Bool) : Int × T4 := if pathL p = true ∧ (named k = true → nameL s = true) then (0, k, s, p, h) else (11, zeroT)
def dirP (k : Int) (s : List UInt8) (ws : List (List UInt8)) : Int × T4 :=
  if ws.length < leastOf k ∨ mostOf k < ws.length then (5, zeroT)
  else match ws with
    | [] => dirE k s [] false
    | w :: _ => if Lib.hasPrefix w [46] = true then dirE k s (w.drop 1) true else (5, zeroT)
def dirK (k : Int) (ws : List (List UInt8)) : Int × T4 :=
  if named k = true then match ws with
    | [] => (5, zeroT)
    | w :: r => if Lib.hasPrefix w [46] = true then (5, zeroT) else dirP k w r
  else dirP k [] ws
/-- lex.directive. -/
def dirF (ws : List (List UInt8)) : Int × T4 :=
  match ws with
  | [] => (5, zeroT)
  | w :: r => match kwKind w with
    | some k => dirK k r
    | none => if Lib.hasPrefix w [46] = true then dirK 1 (w :: r) else (5, zeroT)
/-- A token with its offset. -/
abbrev T5 := Nat × T4
def txtT (p : Nat) (s : List UInt8) : List T5 := if s = [] then [] else [(p, 0, s, [], false)]
def lexS (p : Nat) (s : List UInt8) : Except (Nat × Int) (List T5) :=
  if h1 : Lib.index s [123, 123] < 0 then .ok (txtT p s)
  else if h2 : Lib.index (s.drop ((Lib.index s [123, 123]).toNat + 2)) [125, 125] < 0 then .error (p + (Lib.index s [123, 123]).toNat, 7)
  else
    let i := (Lib.index s [123, 123]).toNat
    let j := (Lib.index (s.drop (i + 2)) [125, 125]).toNat
    let d := dirF (fieldsG ((s.drop (i + 2)).take j) [])
    if d.1 = 0 then
      match lexS (p + i + j + 4) ((s.drop (i + 2)).drop (j + 2)) with
      | .error e => .error e
      | .ok l => .ok (txtT p (s.take i) ++ (p + i, d.2) :: l)
    else .error (p + i, d.1)
termination_by s.length
decreasing_by
  have r1 := Lib.index_room s [123, 123] (by omega)
  simp only [List.length_cons, List.length_nil] at r1
  simp only [List.length_drop]
  omega
def noPair (c : UInt8) : List UInt8 → Prop
  | a :: b :: r => ¬ (a = c ∧ b = c) ∧ noPair c (b :: r)
  | _ => True
theorem noPair_tail {c a : UInt8} : ∀ {s : List UInt8}, noPair c (a :: s) → noPair c s
  | [], _ => trivial
  | _ :: _, h => h.2
theorem pre2 (c a : UInt8) (s : List UInt8) : List.isPrefixOf [c, c] (a :: s) = true ↔ a = c ∧ s.head? = some c := by
  cases s with
  | nil =>
    constructor
    · intro h; simp only [List.isPrefixOf, Bool.and_false] at h; cases h
    · intro h; cases h.2
  | cons b r =>
    simp only [List.isPrefixOf, Bool.and_true, Bool.and_eq_true, beq_iff_eq, List.head?_cons, Option.some.injEq]
    exact ⟨fun h => ⟨h.1.symm, h.2.symm⟩, fun h => ⟨h.1.symm, h.2.symm⟩⟩
theorem idx_none {c : UInt8} : ∀ {s : List UInt8}, noPair c s → Lib.index s [c, c] = -1
  | [], _ => rfl
  | a :: s, h => by
    have ih := idx_none (noPair_tail h)
    have hp : ¬ List.isPrefixOf [c, c] (a :: s) = true := fun e => by
      obtain ⟨h1, h2⟩ := (pre2 c a s).1 e
      cases s with
      | nil => cases h2
      | cons b r => simp only [List.head?_cons, Option.some.injEq] at h2; exact h.1 ⟨h1, h2⟩
    unfold Lib.index
    rw [if_neg hp, ih]
    rfl
theorem idx_at {c : UInt8} (r : List UInt8) : ∀ {t : List UInt8}, noPair c (t ++ [c]) → Lib.index (t ++ c :: c :: r) [c, c] = t.length
  | [], _ => by
    show Lib.index (c :: c :: r) [c, c] = 0
    unfold Lib.index
    rw [if_pos ((pre2 c c _).2 ⟨rfl, rfl⟩)]
  | a :: t, h => by
    have ih := idx_at r (noPair_tail (s := t ++ [c]) h)
    have hp : ¬ List.isPrefixOf [c, c] (a :: (t ++ c :: c :: r)) = true := fun e => by
      obtain ⟨h1, h2⟩ := (pre2 c a _).1 e
      cases t with
      | nil => exact h.1 ⟨h1, rfl⟩
      | cons b t => simp only [List.cons_append, List.head?_cons, Option.some.injEq] at h2; exact h.1 ⟨h1, h2⟩
    show Lib.index (a :: (t ++ c :: c :: r)) [c, c] = _
    unfold Lib.index
    rw [if_neg hp, ih]
    have : ((t.length : Int) == -1) = false := by rw [beq_eq_false_iff_ne]; omega
    rw [this]
    simp
theorem idx_cases (c : UInt8) : ∀ (s : List UInt8), noPair c s ∨ ∃ t r, s = t ++ c :: c :: r ∧ noPair c (t ++ [c])
  | [] => .inl trivial
  | [a] => .inl trivial
  | a :: b :: s => by
    by_cases hp : a = c ∧ b = c
    · exact .inr ⟨[], s, by rw [hp.1, hp.2]; rfl, trivial⟩
    · rcases idx_cases c (b :: s) with h | ⟨t, r, e, h⟩
      · exact .inl ⟨hp, h⟩
      · refine .inr ⟨a :: t, r, by rw [e]; rfl, ?_⟩
        cases t with
        | nil =>
          simp only [List.nil_append, List.cons.injEq] at e
          exact ⟨fun x => hp ⟨x.1, e.1⟩, trivial⟩
        | cons d t =>
          simp only [List.cons_append, List.cons.injEq] at e
          exact ⟨fun x => hp ⟨x.1, by rw [e.1]; exact x.2⟩, h⟩
theorem lexS_text {p : Nat} {s : List UInt8} (h : noPair 123 s) : lexS p s = .ok (txtT p s) := by
  rw [lexS, dif_pos (by rw [idx_none h]; decide)]
theorem lexS_open {p : Nat} {t r : List UInt8} (h : noPair 123 (t ++ [123])) (hr : noPair 125 r) : lexS p (t ++ 123 :: 123 :: r) = .error (p + t.length, 7) := by
  have e := idx_at r h
  have hd : (t ++ 123 :: 123 :: r).drop (t.length + 2) = r := by rw [← List.drop_drop, List.drop_left]; rfl
  rw [lexS, dif_neg (by rw [e]; omega), e, Int.toNat_natCast, hd, dif_pos (by rw [idx_none hr]; decide)]
theorem lexS_dir {p : Nat} {t u r : List UInt8} (h : noPair 123 (t ++ [123])) (hu : noPair 125 (u ++ [125])) :
    lexS p (t ++ 123 :: 123 :: (u ++ 125 :: 125 :: r)) =
      if (dirF (fieldsG u [])).1 = 0 then
        match lexS (p + t.length + u.length + 4) r with
        | .error e => .error e
        | .ok l => .ok (txtT p t ++ (p + t.length, (dirF (fieldsG u [])).2) :: l)
      else .error (p + t.length, (dirF (fieldsG u [])).1) := by
  have e := idx_at (u ++ 125 :: 125 :: r) h
  have e2 := idx_at r hu
  have hd : (t ++ 123 :: 123 :: (u ++ 125 :: 125 :: r)).drop (t.length + 2) = u ++ 125 :: 125 :: r := by rw [← List.drop_drop, List.drop_left]; rfl
  have hd2 : (u ++ 125 :: 125 :: r).drop (u.length + 2) = r := by rw [← List.drop_drop, List.drop_left]; rfl
  have ht : (t ++ 123 :: 123 :: (u ++ 125 :: 125 :: r)).take t.length = t := List.take_left
  have ht2 : (u ++ 125 :: 125 :: r).take u.length = u := List.take_left
  rw [lexS, dif_neg (by rw [e]; omega), e, Int.toNat_natCast, hd, dif_neg (by rw [e2]; omega)]
  simp only [Int.toNat_natCast]
  rw [hd, e2]
  simp only [Int.toNat_natCast]
  rw [hd2, ht, ht2]
/-- The three ways that a source goes on. -/
inductive Way : List UInt8 → Prop
  | text (s) (h : noPair 123 s) : Way s
  | open_ (t r) (h : noPair 123 (t ++ [123])) (hr : noPair 125 r) : Way (t ++ 123 :: 123 :: r)
  | dir (t u r) (h : noPair 123 (t ++ [123])) (hu : noPair 125 (u ++ [125])) : Way (t ++ 123 :: 123 :: (u ++ 125 :: 125 :: r))
theorem way (s : List UInt8) : Way s := by
  rcases idx_cases 123 s with h | ⟨t, r, rfl, h⟩
  · exact .text s h
  · rcases idx_cases 125 r with hr | ⟨u, r, rfl, hu⟩
    · exact .open_ t r h hr
    · exact .dir t u r h hu
/-- What Lex returns. -/
def tokS (x : T5) : S76 := ⟨x.2.1, x.1, ⟨x.2.2.1.toArray⟩, ⟨x.2.2.2.1.toArray⟩, x.2.2.2.2⟩
def lexR (s : ByteArray) : Except (Nat × Int) (List T5) → List S76 × Int × Int
  | .ok l => (l.map tokS, s.size, 0)
  | .error (p, e) => ([], p, e)
def lexF (s : ByteArray) : List S76 × Int × Int := if (s.size : Int) > 65536 then ([], 0, 6) else lexR s (lexS 0 s.data.toList)
end Go.Proofs.YtkpnfejfbmandaaDoor.Px
/- strings.FieldsFunc at spaces tells the words of La. -/
namespace Go.Proofs.YtkpnfejfbmandaaDoor.Px
open Go.RowKit Go.Proofs.YtkpnfejfbmandaaDoorW.PrintWords Go.Proofs.YtkpnfejfbmandaaDoorW.PrintLast Go.Proofs.YtkpnfejfbmandaaDoorW.PrintMore
set_option linter.unusedVariables false
set_option linter.unusedSimpArgs false
def isSp (x : Nat) : Bool := (x : Int) == 32
theorem get_list (s : ByteArray) (i : Nat) (h : i < s.size) : s.data.toList[i]? = some (s.get! i) := by
  have e : s.get! i = s[i]'h := by
    simp [ByteArray.get!, getElem!_pos, h]
    rfl
  rw [e]
  have hl : i < s.data.toList.length := by rw [data_length]; exact h
  rw [List.getElem?_eq_getElem hl]
  simp [ByteArray.getElem_eq_getElem_data]
theorem dec_high (s : ByteArray) (pos : Nat) (h : pos < s.size) (ha : 128 ≤ (s.get! pos).toNat) :
    128 ≤ (Utf8.decode s pos).1 ∧ 1 ≤ (Utf8.decode s pos).2 ∧ pos + (Utf8.decode s pos).2 ≤ s.size ∧ ∀ j, j < (Utf8.decode s pos).2 → 128 ≤ (s.get! (pos + j)).toNat := by
  rw [Lib.decode_at]
  unfold Lib.decodeN
  rw [if_neg (by omega)]
  have one : ∀ j, j < 1 → 128 ≤ (s.get! (pos + j)).toNat := fun j hj => by
    obtain rfl : j = 0 := by omega
    exact ha
  repeat' split
  all_goals refine ⟨by first | omega | (show 128 ≤ 65533; omega), by first | omega | (show 1 ≤ 1; omega), by first | omega | (show pos + 1 ≤ s.size; omega), fun j hj => ?_⟩
  all_goals first
    | exact one j hj
    | (have hj2 : j = 0 ∨ j = 1 ∨ j = 2 ∨ j = 3 := by
         simp only at hj
         omega
       rcases hj2 with rfl | rfl | rfl | rfl
       · exact ha
       all_goals first | (simp only at hj; omega))
theorem fieldsG_skip : ∀ (t r cur : List UInt8), (∀ b ∈ t, b ≠ 32) → fieldsG (t ++ r) cur = fieldsG r (cur ++ t)
  | [], r, cur, _ => by simp
  | b :: t, r, cur, h => by
    show fieldsG (b :: (t ++ r)) cur = _
    rw [fieldsG, if_neg (h b (by simp)), fieldsG_skip t r _ (fun c hc => h c (by simp [hc]))]; simp
def curOf (s : ByteArray) (pos : Nat) : Option Nat → List UInt8
  | none => []
  | some a => (s.extract a pos).data.toList
def endOf (s : ByteArray) (x : List (Nat × Nat) × Option Nat) : List (List UInt8) := (Lib.closeSpans s x).map fun y => (s.extract y.1 y.2).data.toList
theorem ext_split (s : ByteArray) (a b c : Nat) (h1 : a ≤ b) (h2 : b ≤ c) : (s.extract a b).data.toList ++ (s.extract b c).data.toList = (s.extract a c).data.toList := by
  rw [Lib.extract_data, Lib.extract_data, Lib.extract_data]
  rw [show c - a = (b - a) + (c - b) by omega, List.take_add, List.drop_drop, show a + (b - a) = b by omega]
theorem ext_len (s : ByteArray) (a b : Nat) (h1 : a ≤ b) (h2 : b ≤ s.size) : (s.extract a b).data.toList.length = b - a := by rw [data_length, ByteArray.size_extract]; omega
theorem spans_is (s : ByteArray) : ∀ (f pos : Nat) (st : Option Nat) (acc : List (Nat × Nat)), pos ≤ s.size → s.size ≤ pos + f → (∀ a, st = some a → a < pos) →
    endOf s (Lib.spansFromP isSp s f pos st acc) = (acc.map fun y => (s.extract y.1 y.2).data.toList) ++ fieldsG (s.data.toList.drop pos) (curOf s pos st) := by
  have fin : ∀ (pos : Nat) (st : Option Nat) (acc : List (Nat × Nat)), pos = s.size → (∀ a, st = some a → a < pos) → endOf s (acc, st) = (acc.map fun y => (s.extract y.1 y.2).data.toList) ++ fieldsG (s.data.toList.drop pos) (curOf s pos st) := by
    intro pos st acc hp hst
    rw [List.drop_eq_nil_of_le (by rw [data_length]; omega)]
    subst hp
    cases st with
    | none => simp [endOf, Lib.closeSpans, fieldsG, wordCons, curOf]
    | some a =>
      have hlt := hst a rfl
      have hne : ¬ (s.extract a s.size).data.toList = [] := fun e => by
        have := ext_len s a s.size (by omega) (Nat.le_refl _)
        rw [e] at this; simp at this; omega
      simp [endOf, Lib.closeSpans, fieldsG, wordCons, curOf, hne]
      omega
  intro f
  induction f with
  | zero =>
    intro pos st acc h1 h2 hst
    exact fin pos st acc (by omega) hst
  | succ f ih =>
    intro pos st acc h1 h2 hst
    by_cases hlt : pos < s.size
    case neg =>
      rw [Lib.spansFromP_end _ _ _ _ _ _ hlt]
      exact fin pos st acc (by omega) hst
    have hg := get_list s pos hlt
    have step : Lib.spansFromP isSp s (f + 1) pos st acc = if pos < s.size then (if isSp (Utf8.decode s pos).1 then
        (match st with
         | some a => Lib.spansFromP isSp s f (pos + (Utf8.decode s pos).2) none (acc ++ [(a, pos)])
         | none => Lib.spansFromP isSp s f (pos + (Utf8.decode s pos).2) none acc)
       else
        (match st with
         | some a => Lib.spansFromP isSp s f (pos + (Utf8.decode s pos).2) (some a) acc
         | none => Lib.spansFromP isSp s f (pos + (Utf8.decode s pos).2) (some pos) acc)) else (acc, st) := by
      cases st <;> rfl
    rw [step, if_pos hlt]
    clear step
    have hdrop : s.data.toList.drop pos = s.get! pos :: s.data.toList.drop (pos + 1) := by
      obtain ⟨hl, e⟩ := List.getElem?_eq_some_iff.1 hg
      rw [List.drop_eq_getElem_cons hl, e]
    have skip : ∀ k, 1 ≤ k → pos + k ≤ s.size → (∀ j, j < k → s.get! (pos + j) ≠ 32) → isSp (Utf8.decode s pos).1 = false → (Utf8.decode s pos).2 = k →
        endOf s (if isSp (Utf8.decode s pos).1 = true then (match st with
         | some a => Lib.spansFromP isSp s f (pos + (Utf8.decode s pos).2) none (acc ++ [(a, pos)])
         | none => Lib.spansFromP isSp s f (pos + (Utf8.decode s pos).2) none acc)
       else
        (match st with
         | some a => Lib.spansFromP isSp s f (pos + (Utf8.decode s pos).2) (some a) acc
         | none => Lib.spansFromP isSp s f (pos + (Utf8.decode s pos).2) (some pos) acc)) = (acc.map fun y => (s.extract y.1 y.2).data.toList) ++ fieldsG (s.data.toList.drop pos) (curOf s pos st) := by
      intro k hk1 hk2 hk3 hsp hw
      rw [hw, if_neg (by rw [hsp]; decide)]
      have ht : s.data.toList.drop pos = (s.extract pos (pos + k)).data.toList ++ s.data.toList.drop (pos + k) := by
        rw [Lib.extract_data, Nat.add_sub_cancel_left, ← List.drop_drop, List.take_append_drop]
      have hn : ∀ b ∈ (s.extract pos (pos + k)).data.toList, b ≠ 32 := fun b hb => by
        obtain ⟨j, hj, e⟩ := List.getElem_of_mem hb
        have hl := ext_len s pos (pos + k) (by omega) hk2
        have hj2 : j < k := by omega
        have hx : (s.extract pos (pos + k)).data.toList[j]? = some (s.get! (pos + j)) := by
          rw [Lib.extract_data, Nat.add_sub_cancel_left, List.getElem?_take, if_pos hj2, List.getElem?_drop, get_list s _ (by omega)]
        rw [List.getElem?_eq_getElem hj, e] at hx
        rw [Option.some.inj hx]
        exact hk3 j hj2
      rw [ht, fieldsG_skip _ _ _ hn]
      cases st with
      | none =>
        dsimp only
        rw [ih _ _ _ hk2 (by omega) (fun a e => by cases e; omega)]
        simp [curOf]
      | some a =>
        dsimp only
        have hlt' := hst a rfl
        rw [ih _ _ _ hk2 (by omega) (fun a' e => by cases e; omega)]
        simp only [curOf]
        rw [ext_split s a pos (pos + k) (by omega) (by omega)]
    by_cases ha : (s.get! pos).toNat < 128
    · have hdec : Utf8.decode s pos = ((s.get! pos).toNat, 1) := by
        have e : s.get! pos = s[pos]'hlt := by
          simp [ByteArray.get!, getElem!_pos, hlt]
          rfl
        rw [decode_ascii s pos hlt (by rw [← e]; exact ha), e]
      by_cases h32 : s.get! pos = 32
      · have hsp : isSp (Utf8.decode s pos).1 = true := by rw [hdec, h32]; rfl
        have hw : (Utf8.decode s pos).2 = 1 := by rw [hdec]
        rw [hw, if_pos hsp, hdrop, fieldsG, if_pos h32]
        cases st with
        | none =>
          dsimp only
          rw [ih _ _ _ (by omega) (by omega) (fun a e => by cases e)]
          simp [curOf, wordCons]
        | some a =>
          dsimp only
          have hlt' := hst a rfl
          have hne : ¬ (s.extract a pos).data.toList = [] := fun e => by
            have := ext_len s a pos (by omega) h1
            rw [e] at this; simp at this; omega
          rw [ih _ _ _ (by omega) (by omega) (fun a e => by cases e)]
          simp [curOf, wordCons, hne]
          omega
      · refine skip 1 (Nat.le_refl _) (by omega) (fun j hj => ?_) ?_ (by rw [hdec])
        · obtain rfl : j = 0 := by omega
          exact h32
        · rw [hdec]
          unfold isSp
          rw [beq_eq_false_iff_ne]
          intro e
          exact h32 (UInt8.toNat_inj.1 (by have e : ((s.get! pos).toNat : Int) = 32 := e
                                           have : (s.get! pos).toNat = 32 := by omega
                                           rw [this]; rfl))
    · obtain ⟨d1, d2, d3, d4⟩ := dec_high s pos hlt (by omega)
      refine skip _ d2 d3 (fun j hj e => ?_) ?_ rfl
      · have := d4 j hj
        rw [e] at this
        exact absurd this (by decide)
      · unfold isSp
        rw [beq_eq_false_iff_ne]; omega
theorem fields_is (s : ByteArray) : (Lib.goFieldsP isSp s).map (·.data.toList) = fieldsG s.data.toList [] := by
  have := spans_is s s.size 0 none [] (Nat.zero_le _) (by omega) (fun a e => by cases e)
  unfold Lib.goFieldsP Lib.spansOfP
  rw [List.map_map]
  unfold endOf at this
  rw [List.map_nil, List.nil_append, List.drop_zero] at this
  exact this
end Go.Proofs.YtkpnfejfbmandaaDoor.Px

/-
  DERIVED: THE SHELF's CONTRACTS AT THIS DUMP, IN PLAIN WORDS (tools/lay-plain.mjs out of 'TrydShelf.lean', which tools/lay-shelf.mjs wrote): THE SAME DECLARATIONS UNDER THE SAME NAMES: 'import', 'namespace', 'open', 'def', 'theorem' AND NOTHING ELSE: no command of the shelf's: FOR A HAND-IN. Each laying: the table of numbers ('.._ren') and one theorem, a field a fact of the dump's own or the kernel's comparison; each contract: ONE APPLICATION.
-/
namespace Go.Proofs
set_option linter.unusedVariables false
set_option linter.unusedSimpArgs false
open Go.Shelf
def Tryd.lays137_ren : Go.Shelf.Ren := ⟨fun | 137 => 123 | 217 => 98 | 266 => 109 | n => n, fun | 9 => 9 | 5 => 5 | 3 => 3 | n => n, fun | n => n⟩
theorem Tryd.lays137 : Go.Proofs.Lays.n137 Tryd.prog Tryd.lays137_ren := {
  mixed := by kernel_rfl
  f137 := Tryd.func123.trans (congrArg some (by kernel_rfl))
  f217 := Tryd.func98.trans (congrArg some (by kernel_rfl))
  f266 := Tryd.func109.trans (congrArg some (by kernel_rfl))
  t3 := Tryd.underlying3
  a3 := Tryd.isAgg3
  z3 := Tryd.sizeOf3
  v3 := Tryd.zeroValue3
  t5 := Tryd.underlying5
  a5 := Tryd.isAgg5
  z5 := Tryd.sizeOf5
  v5 := Tryd.zeroValue5
  t9 := Tryd.underlying9
  a9 := Tryd.isAgg9
  z9 := Tryd.sizeOf9
  v9 := Tryd.zeroValue9 }
open Go.RowKit in
/-- strings.IndexByte: "IndexByte returns the index of the first instance of c in s, or -1 if c is not present in s.": IT RETURNS 'Lib.indexByte s c'; the world is as it was. (LAID: no walk: one application.) -/
theorem Tryd.strings_IndexByte (s : ByteArray) (c : Int) (w : World) :
    Calls Tryd.prog 123 #[.string s, .int .u8 c] w fun e w' => e = .returned (.int .i64 (Lib.indexByte s.data.toList c.toNat.toUInt8)) ∧ w' = w := Any.strings_IndexByte Tryd.lays137 s c w
def Tryd.lays210_ren : Go.Shelf.Ren := ⟨fun | 210 => 90 | 206 => 48 | n => n, fun | 9 => 9 | 4 => 4 | 3 => 3 | n => n, fun | n => n⟩
def Tryd.lays103_ren : Go.Shelf.Ren := ⟨fun | 103 => 76 | 210 => 90 | 206 => 48 | n => n, fun | 9 => 9 | 4 => 4 | 24 => 157 | 3 => 3 | n => n, fun | n => n⟩
theorem Tryd.lays103 : Go.Proofs.Lays.n103 Tryd.prog Tryd.lays103_ren := {
  mixed := by kernel_rfl
  f103 := Tryd.func76.trans (congrArg some (by kernel_rfl))
  f206 := Tryd.func48.trans (congrArg some (by kernel_rfl))
  f210 := Tryd.func90.trans (congrArg some (by kernel_rfl))
  t3 := Tryd.underlying3
  a3 := Tryd.isAgg3
  z3 := Tryd.sizeOf3
  v3 := Tryd.zeroValue3
  t4 := Tryd.underlying4
  a4 := Tryd.isAgg4
  z4 := Tryd.sizeOf4
  v4 := Tryd.zeroValue4
  t9 := Tryd.underlying9
  a9 := Tryd.isAgg9
  z9 := Tryd.sizeOf9
  v9 := Tryd.zeroValue9
  t24 := Tryd.underlying157
  a24 := Tryd.isAgg157
  z24 := Tryd.sizeOf157
  v24 := Tryd.zeroValue157 }
open Go.RowKit in
/-- strings.CutPrefix: "CutPrefix returns s without the provided leading prefix string and reports whether it found the prefix. If s doesn't start with prefix, CutPrefix returns s, false. If prefix is the empty string, CutPrefix returns s, true.": IT RETURNS '(Lib.trimPrefix s p, Lib.hasPrefix s p)'; the world is as it was. (LAID: no walk: one application.) -/
theorem Tryd.strings_CutPrefix (s p : ByteArray) (w : World) :
    Calls Tryd.prog 76 #[.string s, .string p] w fun e w' => e = .returned (.tuple #[.string ⟨(Lib.trimPrefix s.data.toList p.data.toList).toArray⟩, .bool (Lib.hasPrefix s.data.toList p.data.toList)]) ∧ w' = w := Any.strings_CutPrefix Tryd.lays103 s p w
def Tryd.lays219_ren : Go.Shelf.Ren := ⟨fun | 219 => 89 | 217 => 98 | 225 => 99 | 224 => 100 | 267 => 101 | 266 => 109 | 314 => 110 | n => n, fun | 9 => 9 | 3 => 3 | 4 => 4 | 5 => 5 | 46 => 49 | 146 => 104 | 51 => 103 | n => n, fun | 1 => 2 | n => n⟩
def Tryd.lays145_ren : Go.Shelf.Ren := ⟨fun | 145 => 51 | 220 => 75 | 219 => 89 | 217 => 98 | 225 => 99 | 224 => 100 | 267 => 101 | 266 => 109 | 314 => 110 | n => n, fun | 9 => 9 | 4 => 4 | 59 => 110 | 3 => 3 | 5 => 5 | 46 => 49 | 146 => 104 | 51 => 103 | n => n, fun | 1 => 2 | n => n⟩
theorem Tryd.lays145 : Go.Proofs.Lays.n145 Tryd.prog Tryd.lays145_ren := {
  mixed := by kernel_rfl
  f145 := Tryd.func51.trans (congrArg some (by kernel_rfl))
  f217 := Tryd.func98.trans (congrArg some (by kernel_rfl))
  f219 := Tryd.func89.trans (congrArg some (by kernel_rfl))
  f220 := Tryd.func75.trans (congrArg some (by kernel_rfl))
  f224 := Tryd.func100.trans (congrArg some (by kernel_rfl))
  f225 := Tryd.func99.trans (congrArg some (by kernel_rfl))
  f266 := Tryd.func109.trans (congrArg some (by kernel_rfl))
  f267 := Tryd.func101.trans (congrArg some (by kernel_rfl))
  f314 := Tryd.func110.trans (congrArg some (by kernel_rfl))
  t3 := Tryd.underlying3
  a3 := Tryd.isAgg3
  z3 := Tryd.sizeOf3
  v3 := Tryd.zeroValue3
  t4 := Tryd.underlying4
  a4 := Tryd.isAgg4
  z4 := Tryd.sizeOf4
  v4 := Tryd.zeroValue4
  t5 := Tryd.underlying5
  a5 := Tryd.isAgg5
  z5 := Tryd.sizeOf5
  v5 := Tryd.zeroValue5
  t9 := Tryd.underlying9
  a9 := Tryd.isAgg9
  z9 := Tryd.sizeOf9
  v9 := Tryd.zeroValue9
  t46 := Tryd.underlying49
  a46 := Tryd.isAgg49
  z46 := Tryd.sizeOf49
  v46 := Tryd.zeroValue49
  t51 := Tryd.underlying103
  a51 := Tryd.isAgg103
  z51 := Tryd.sizeOf103
  v51 := Tryd.zeroValue103
  t59 := Tryd.underlying110
  a59 := Tryd.isAgg110
  z59 := Tryd.sizeOf110
  v59 := Tryd.zeroValue110
  t146 := Tryd.underlying104
  a146 := Tryd.isAgg104
  z146 := Tryd.sizeOf104
  v146 := Tryd.zeroValue104
  g1 := by kernel_rfl }
open Go.RowKit Go.Lib in
/-- strings.Cut: "Cut slices s around the first instance of sep, returning the text before and after sep. The found result reports whether sep appears in s. If sep does not appear in s, cut returns s, "", false.": IT RETURNS 'Lib.cut s sep'; the world is as it was but for the count of draws. (LAID: no walk: one application.) -/
theorem Tryd.strings_Cut (s sep : ByteArray) (m : Int) (w : World) (hs : s.size < 4294967281) (hm : w.cell? ⟨2, 0, none⟩ = some (.int .i64 m)) :
    Calls Tryd.prog 51 #[.string s, .string sep] w fun e w' => e = .returned (.tuple #[.string ⟨(Lib.cut s.data.toList sep.data.toList).1.toArray⟩, .string ⟨(Lib.cut s.data.toList sep.data.toList).2.1.toArray⟩, .bool (Lib.cut s.data.toList sep.data.toList).2.2]) ∧ ∃ n, w' = w.drewN n := Any.strings_Cut Tryd.lays145 s sep m w hs hm
def Tryd.lays99_ren : Go.Shelf.Ren := ⟨fun | 99 => 25 | 206 => 48 | n => n, fun | 9 => 9 | 4 => 4 | 3 => 3 | n => n, fun | n => n⟩
theorem Tryd.lays99 : Go.Proofs.Lays.n99 Tryd.prog Tryd.lays99_ren := {
  mixed := by kernel_rfl
  f99 := Tryd.func25.trans (congrArg some (by kernel_rfl))
  f206 := Tryd.func48.trans (congrArg some (by kernel_rfl))
  t3 := Tryd.underlying3
  a3 := Tryd.isAgg3
  z3 := Tryd.sizeOf3
  v3 := Tryd.zeroValue3
  t4 := Tryd.underlying4
  a4 := Tryd.isAgg4
  z4 := Tryd.sizeOf4
  v4 := Tryd.zeroValue4
  t9 := Tryd.underlying9
  a9 := Tryd.isAgg9
  z9 := Tryd.sizeOf9
  v9 := Tryd.zeroValue9 }
open Go.RowKit Go.Lib in
/-- strings.HasPrefix: "HasPrefix reports whether the string s begins with prefix.": IT RETURNS 'Lib.hasPrefix s prefix'; the world is as it was. (LAID: no walk: one application.) -/
theorem Tryd.strings_HasPrefix (s p : ByteArray) (w : World) :
    Calls Tryd.prog 25 #[.string s, .string p] w fun e w' => e = .returned (.bool (Lib.hasPrefix s.data.toList p.data.toList)) ∧ w' = w := Any.strings_HasPrefix Tryd.lays99 s p w
def Tryd.lays221_ren : Go.Shelf.Ren := ⟨fun | 221 => 95 | 268 => 106 | 138 => 107 | 143 => 108 | 195 => 119 | 197 => 120 | 218 => 121 | 219 => 89 | 260 => 124 | 217 => 98 | 225 => 99 | 224 => 100 | 267 => 101 | 266 => 109 | 314 => 110 | n => n, fun | 9 => 9 | 3 => 3 | 31 => 114 | 4 => 4 | 0 => 0 | 105 => 187 | 21 => 21 | 5 => 5 | 46 => 49 | 119 => 190 | 139 => 193 | 138 => 192 | 146 => 104 | 51 => 103 | n => n, fun | 1 => 2 | 3 => 3 | 4 => 4 | n => n⟩
def Tryd.lays146_ren : Go.Shelf.Ren := ⟨fun | 146 => 83 | 221 => 95 | 268 => 106 | 138 => 107 | 143 => 108 | 195 => 119 | 197 => 120 | 218 => 121 | 219 => 89 | 260 => 124 | 217 => 98 | 225 => 99 | 224 => 100 | 267 => 101 | 266 => 109 | 314 => 110 | n => n, fun | 9 => 9 | 31 => 114 | 3 => 3 | 4 => 4 | 0 => 0 | 105 => 187 | 21 => 21 | 5 => 5 | 46 => 49 | 119 => 190 | 139 => 193 | 138 => 192 | 146 => 104 | 51 => 103 | n => n, fun | 1 => 2 | 3 => 3 | 4 => 4 | n => n⟩
theorem Tryd.lays146 : Go.Proofs.Lays.n146 Tryd.prog Tryd.lays146_ren := {
  mixed := by kernel_rfl
  f138 := Tryd.func107.trans (congrArg some (by kernel_rfl))
  f143 := Tryd.func108.trans (congrArg some (by kernel_rfl))
  f146 := Tryd.func83.trans (congrArg some (by kernel_rfl))
  f195 := Tryd.func119.trans (congrArg some (by kernel_rfl))
  f197 := Tryd.func120.trans (congrArg some (by kernel_rfl))
  f217 := Tryd.func98.trans (congrArg some (by kernel_rfl))
  f218 := Tryd.func121.trans (congrArg some (by kernel_rfl))
  f219 := Tryd.func89.trans (congrArg some (by kernel_rfl))
  f221 := Tryd.func95.trans (congrArg some (by kernel_rfl))
  f224 := Tryd.func100.trans (congrArg some (by kernel_rfl))
  f225 := Tryd.func99.trans (congrArg some (by kernel_rfl))
  f260 := Tryd.func124.trans (congrArg some (by kernel_rfl))
  f266 := Tryd.func109.trans (congrArg some (by kernel_rfl))
  f267 := Tryd.func101.trans (congrArg some (by kernel_rfl))
  f268 := Tryd.func106.trans (congrArg some (by kernel_rfl))
  f314 := Tryd.func110.trans (congrArg some (by kernel_rfl))
  t0 := Tryd.underlying0
  a0 := Tryd.isAgg0
  z0 := Tryd.sizeOf0
  v0 := Tryd.zeroValue0
  t3 := Tryd.underlying3
  a3 := Tryd.isAgg3
  z3 := Tryd.sizeOf3
  v3 := Tryd.zeroValue3
  t4 := Tryd.underlying4
  a4 := Tryd.isAgg4
  z4 := Tryd.sizeOf4
  v4 := Tryd.zeroValue4
  t5 := Tryd.underlying5
  a5 := Tryd.isAgg5
  z5 := Tryd.sizeOf5
  v5 := Tryd.zeroValue5
  t9 := Tryd.underlying9
  a9 := Tryd.isAgg9
  z9 := Tryd.sizeOf9
  v9 := Tryd.zeroValue9
  t21 := Tryd.underlying21
  a21 := Tryd.isAgg21
  z21 := Tryd.sizeOf21
  v21 := Tryd.zeroValue21
  t31 := Tryd.underlying114
  a31 := Tryd.isAgg114
  z31 := Tryd.sizeOf114
  v31 := Tryd.zeroValue114
  t46 := Tryd.underlying49
  a46 := Tryd.isAgg49
  z46 := Tryd.sizeOf49
  v46 := Tryd.zeroValue49
  t51 := Tryd.underlying103
  a51 := Tryd.isAgg103
  z51 := Tryd.sizeOf103
  v51 := Tryd.zeroValue103
  t105 := Tryd.underlying187
  a105 := Tryd.isAgg187
  z105 := Tryd.sizeOf187
  v105 := Tryd.zeroValue187
  t119 := Tryd.underlying190
  a119 := Tryd.isAgg190
  z119 := Tryd.sizeOf190
  t138 := Tryd.underlying192
  a138 := Tryd.isAgg192
  z138 := Tryd.sizeOf192
  v138 := Tryd.zeroValue192
  t139 := Tryd.underlying193
  a139 := Tryd.isAgg193
  z139 := Tryd.sizeOf193
  v139 := Tryd.zeroValue193
  t146 := Tryd.underlying104
  a146 := Tryd.isAgg104
  z146 := Tryd.sizeOf104
  v146 := Tryd.zeroValue104
  g1 := by kernel_rfl
  g3 := by kernel_rfl
  g4 := by kernel_rfl }
open Go.RowKit Go.Lib in
/-- strings.Split. (LAID: no walk: one application.) -/
theorem Tryd.strings_Split (s sep : ByteArray) (m : Int) (w : World) (hs : s.size < 4294967281) (hm : w.cell? ⟨2, 0, none⟩ = some (.int .i64 m)) (h1 : 1 ≤ sep.size) :
    Calls Tryd.prog 83 #[.string s, .string sep] w fun e w' =>
      e = .returned (.slice (some ⟨w.heap.size, 0, none⟩) (Lib.countB s sep + 1) (Lib.countB s sep + 1)) ∧ w' = w.alloc (.cells ((Lib.splitB sep 0 (Lib.countB s sep) s).map Value.string).toArray 9) := Any.strings_Split Tryd.lays146 (by kernel_rfl) s sep m w hs hm h1
def Tryd.lays229_ren : Go.Shelf.Ren := ⟨fun | 229 => 53 | n => n, fun | 9 => 9 | 40 => 116 | 31 => 114 | 152 => 159 | 3 => 3 | 0 => 0 | 4 => 4 | 21 => 21 | 154 => 161 | n => n, fun | n => n⟩
theorem Tryd.lays229 : Go.Proofs.Lays.n229 Tryd.prog Tryd.lays229_ren := {
  mixed := by kernel_rfl
  f229 := Tryd.func53.trans (congrArg some (by kernel_rfl))
  t0 := Tryd.underlying0
  a0 := Tryd.isAgg0
  z0 := Tryd.sizeOf0
  v0 := Tryd.zeroValue0
  t3 := Tryd.underlying3
  a3 := Tryd.isAgg3
  z3 := Tryd.sizeOf3
  v3 := Tryd.zeroValue3
  t4 := Tryd.underlying4
  a4 := Tryd.isAgg4
  z4 := Tryd.sizeOf4
  v4 := Tryd.zeroValue4
  t9 := Tryd.underlying9
  a9 := Tryd.isAgg9
  z9 := Tryd.sizeOf9
  v9 := Tryd.zeroValue9
  t21 := Tryd.underlying21
  a21 := Tryd.isAgg21
  z21 := Tryd.sizeOf21
  v21 := Tryd.zeroValue21
  t31 := Tryd.underlying114
  a31 := Tryd.isAgg114
  z31 := Tryd.sizeOf114
  v31 := Tryd.zeroValue114
  t40 := Tryd.underlying116
  a40 := Tryd.isAgg116
  z40 := Tryd.sizeOf116
  v40 := Tryd.zeroValue116
  t152 := Tryd.underlying159
  a152 := Tryd.isAgg159
  z152 := Tryd.sizeOf159
  v152 := Tryd.zeroValue159
  t154 := Tryd.underlying161
  a154 := Tryd.isAgg161
  z154 := Tryd.sizeOf161
  v154 := Tryd.zeroValue161 }
open Go.RowKit Go.Lib in
theorem Tryd.strings_FieldsFunc_runes (g : Nat) (lb : Array Value) (eg : ∀ args w, (callFunc g args).run Tryd.prog w = .ok (.enter g args) w) (p : Nat → Bool) (s : ByteArray) (w : World) (hs : s.size ≤ 4294967296) (hp : PredAtRunes Tryd.prog g lb p w) :
    Calls Tryd.prog 53 #[.string s, .func (.func g) #[] lb] w fun e w' => ∃ A, e = .returned (.slice (some ⟨A, 0, none⟩) (Lib.goFieldsP p s).length (Lib.goFieldsP p s).length) ∧ w.heap.size ≤ A ∧
      w'.ownsRow w.heap.size 9 1 (.slice (some ⟨A, 0, none⟩) (Lib.goFieldsP p s).length (Lib.goFieldsP p s).length) (Lib.goFieldsP p s).length ((Lib.goFieldsP p s).map Value.string) ∧ Below w.heap.size w w' := Any.strings_FieldsFunc_runes Tryd.lays229 g lb eg p s w hs hp (by kernel_rfl) (by kernel_rfl)
end Go.Proofs
