import Derived.Test.YtkpnfejfbmandaaDoorCEM1
import Derived.Test.YtkpnfejfbmandaaDoorCEM5
import Derived.Test.YtkpnfejfbmandaaDoorCEM7
import Derived.Maps.RangeWalk
import Derived.Outline
import Derived.StillTailTactics
import Derived.Test.YtkpnfejfbmandaaDoorCEM3
import Derived.Test.YtkpnfejfbmandaaDoorCEM6
namespace Go.Proofs.YtkpnfejfbmandaaDoor.Px
open Go.RowKit Go.Proofs.YtkpnfejfbmandaaDoorW.PrintWords Go.Proofs.YtkpnfejfbmandaaDoorW.PrintLast Go.Proofs.YtkpnfejfbmandaaDoorW.PrintMore
attribute [local go_sem] max2_int min2_int max_two min_two max_three min_three max_four min_four   -- for this text's walks alone
set_option linter.unusedVariables false
set_option linter.unusedSimpArgs false
/-- A state of type 86 at block g of W; what its slices lead to came in by w0. -/
def IsS86 (w0 W : World) (g : Nat) (f0 : List Int) (f1 : Int) (f2 : Int) : Prop := ∃ A0 c0, W.heap[g]? = some (.cells #[.slice A0 f0.length c0, .int .i64 f1, .int .i64 f2] 86 (0, 0)) ∧ w0.heap.size ≤ g ∧ Kd.C (Kd.int .i64) w0 A0 f0.length f0
theorem IsS86.grown {w0 W : World} {g : Nat} {f0 : List Int} {f1 : Int} {f2 : Int} {W1 : World} {row : Option Nat} (h : IsS86 w0 W g f0 f1 f2) (hw : W.grownBy W1 row) (hne : some g ≠ row) : IsS86 w0 W1 g f0 f1 f2 := by
  obtain ⟨A0, c0, hb, hg, hr0⟩ := h
  exact ⟨A0, c0, blk_grown hb hw hne, hg, hr0⟩
theorem IsS86.kept {w0 W : World} {g : Nat} {f0 : List Int} {f1 : Int} {f2 : Int} {W1 : World} {S : Nat → Prop} (h : IsS86 w0 W g f0 f1 f2) (hk : Kept W W1 S) (hne : ¬ S g) : IsS86 w0 W1 g f0 f1 f2 := by
  obtain ⟨A0, c0, hb, hg, hr0⟩ := h
  exact ⟨A0, c0, blk_kept hb hk hne, hg, hr0⟩
theorem IsS86.below {w0 W : World} {g : Nat} {f0 : List Int} {f1 : Int} {f2 : Int} {W1 : World} (h : IsS86 w0 W g f0 f1 f2) (hw : Below W.heap.size W W1) : IsS86 w0 W1 g f0 f1 f2 := h.grown (grown_of_below hw none) (by simp)
theorem IsS86.alloc {w0 W : World} {g : Nat} {f0 : List Int} {f1 : Int} {f2 : Int} (h : IsS86 w0 W g f0 f1 f2) (o : Obj) : IsS86 w0 (W.alloc o) g f0 f1 f2 := h.below (below_alloc (Below.refl _ _) o)
theorem IsS86.drewN {w0 W : World} {g : Nat} {f0 : List Int} {f1 : Int} {f2 : Int} (h : IsS86 w0 W g f0 f1 f2) (m : Nat) : IsS86 w0 (W.drewN m) g f0 f1 f2 := h
theorem IsS86.drew {w0 W : World} {g : Nat} {f0 : List Int} {f1 : Int} {f2 : Int} (h : IsS86 w0 W g f0 f1 f2) : IsS86 w0 W.drew g f0 f1 f2 := h
theorem IsS86.at_ {w0 W : World} {g : Nat} {f0 : List Int} {f1 : Int} {f2 : Int} {w' : World} {m : Nat} (hq : W.drewN m = w') (h : IsS86 w0 W g f0 f1 f2) : IsS86 w0 w' g f0 f1 f2 := by subst hq; exact IsS86.drewN h m
theorem IsS86.apart {w0 W : World} {g : Nat} {f0 : List Int} {f1 : Int} {f2 : Int} {α : Type} {d : Kd α} {e : Nat} {base : Nat} {ok : Nat → Prop} {v : Value} {xs : List α} (h : IsS86 w0 W g f0 f1 f2) (ho : d.R e W base ok v xs) (ht : ∀ q, q ∈ e :: d.E → q ≠ 86) : d.R e W base (fun k => ok k ∧ k ≠ g) v xs := by
  obtain ⟨A0, c0, hb, hg, hr0⟩ := h
  exact Kd.R_types ho hb ht
theorem IsS86.own_ne {w0 W : World} {g : Nat} {f0 : List Int} {f1 : Int} {f2 : Int} {α : Type} {d : Kd α} {e : Nat} {base : Nat} {ok : Nat → Prop} {v : Value} {xs : List α} (h : IsS86 w0 W g f0 f1 f2) (ho : d.R e W base ok v xs) (ht : e ≠ 86) : some g ≠ v.ownBlock := by
  obtain ⟨A0, c0, hb, hg, hr0⟩ := h
  exact Kd.R_ne ho hb ht
theorem IsS86.lt {w0 W : World} {g : Nat} {f0 : List Int} {f1 : Int} {f2 : Int} (h : IsS86 w0 W g f0 f1 f2) : g < W.heap.size := by
  obtain ⟨A0, c0, hb, hg, hr0⟩ := h
  exact blk_lt hb
theorem IsS86.ge {w0 W : World} {g : Nat} {f0 : List Int} {f1 : Int} {f2 : Int} (h : IsS86 w0 W g f0 f1 f2) : w0.heap.size ≤ g := by
  obtain ⟨A0, c0, hb, hg, hr0⟩ := h
  exact hg
theorem IsS86.far {w0 W : World} {g : Nat} {f0 : List Int} {f1 : Int} {f2 : Int} {p : Addr} (h : IsS86 w0 W g f0 f1 f2) (hne : g ≠ p.block) (u : Value) : IsS86 w0 (W.setCell p u) g f0 f1 f2 := by
  obtain ⟨A0, c0, hb, hg, hr0⟩ := h
  exact ⟨A0, c0, blk_far hb hne u, hg, hr0⟩
theorem IsS86.new (w0 W : World) (A0 : Option Addr) (c0 : Nat) (f0 : List Int) (f1 : Int) (f2 : Int) (hB : Below w0.heap.size w0 W) (hr0 : Kd.C (Kd.int .i64) w0 A0 f0.length f0) : IsS86 w0 (W.alloc (.cells #[.slice A0 f0.length c0, .int .i64 f1, .int .i64 f2] 86)) W.heap.size f0 f1 f2 := ⟨A0, c0, by simpa using heap_alloc_new W _, hB.size, hr0⟩
end Go.Proofs.YtkpnfejfbmandaaDoor.Px

/- Plain laws: what Count, Nest, weight and offsets tell of a list of nodes. -/
namespace Go.Proofs.YtkpnfejfbmandaaDoor.Px
open Go.RowKit Go.Proofs.YtkpnfejfbmandaaDoorW.PrintWords Go.Proofs.YtkpnfejfbmandaaDoorW.PrintLast Go.Proofs.YtkpnfejfbmandaaDoorW.PrintMore
set_option linter.unusedVariables false
set_option linter.unusedSimpArgs false
mutual
def cntL : List S78 → Nat
  | [] => 0
  | x :: xs => cntN x + cntL xs
def cntN : S78 → Nat
  | ⟨k, _, _, _, _, _, b, l⟩ => 1 + (if k = 2 then cntL b + cntL l else if k = 3 ∨ k = 6 then cntL b else 0)
end
theorem cntN_eq (x : S78) : cntN x = 1 + (if x.f0 = 2 then cntL x.f6 + cntL x.f7 else if x.f0 = 3 ∨ x.f0 = 6 then cntL x.f6 else 0) := by cases x; simp [cntN]
theorem cntL_cons (x : S78) (xs : List S78) : cntL (x :: xs) = cntN x + cntL xs := by simp [cntL]
mutual
def nstL : List S78 → Nat
  | [] => 0
  | x :: xs => max (nstN x) (nstL xs)
def nstN : S78 → Nat
  | ⟨k, _, _, _, _, _, b, l⟩ => if k = 2 then max (1 + nstL b) (1 + nstL l) else if k = 3 ∨ k = 6 then 1 + nstL b else 0
end
theorem nstN_eq (x : S78) : nstN x = if x.f0 = 2 then max (1 + nstL x.f6) (1 + nstL x.f7) else if x.f0 = 3 ∨ x.f0 = 6 then 1 + nstL x.f6 else 0 := by cases x; simp [nstN]
theorem nstL_cons (x : S78) (xs : List S78) : nstL (x :: xs) = max (nstN x) (nstL xs) := by simp [nstL]
theorem getN (l : List S78) (i : Nat) (h : i < l.length) : nN l[i] ≤ nL l := nL_mem l l[i] (List.getElem_mem h)
end Go.Proofs.YtkpnfejfbmandaaDoor.Px

/- compile.prints: how many prints. -/
namespace Go.Proofs.YtkpnfejfbmandaaDoor.Px
open Go.RowKit Go.Proofs.YtkpnfejfbmandaaDoorW.PrintWords Go.Proofs.YtkpnfejfbmandaaDoorW.PrintLast Go.Proofs.YtkpnfejfbmandaaDoorW.PrintMore
set_option linter.unusedVariables false
set_option linter.unusedSimpArgs false
mutual
/-- How many prints the nodes have. -/
def prL : List S78 → Nat
  | [] => 0
  | x :: xs => prN x + prL xs
def prN : S78 → Nat
  | ⟨k, _, _, _, _, _, b, l⟩ => (if k = 1 then 1 else 0) + prL b + prL l
end
theorem prN_eq (x : S78) : prN x = (if x.f0 = 1 then 1 else 0) + prL x.f6 + prL x.f7 := by cases x; simp [prN]
theorem prL_cons (x : S78) (xs : List S78) : prL (x :: xs) = prN x + prL xs := by simp [prL]
theorem prL_one (x : S78) : prL [x] = prN x := by rw [prL_cons]; simp [prL]
mutual
theorem pr_le : ∀ l : List S78, prL l ≤ nL l
  | [] => by simp [prL, nL]
  | x :: xs => by have := pr_le xs; have := prn_le x; rw [prL_cons, nL_cons]; omega
theorem prn_le : ∀ x : S78, prN x ≤ nN x
  | ⟨k, _, _, _, _, _, b, l⟩ => by
    have := pr_le b; have := pr_le l
    rw [prN_eq, nN_eq]; dsimp only
    split <;> omega
end
abbrev PE (l : List S78) : Prop := nL l ≤ 1000000000 → Ev (fun k => compile_prints.f k l) (prL l : Int)
theorem prints_step (l : List S78) (ih : ∀ x ∈ l, PE x.f6 ∧ PE x.f7) : PE l := by
  intro hn
  have loop : ∀ (d i : Nat) (x3 : Int), i ≤ l.length → l.length - i = d → 0 ≤ x3 → x3 + prL (l.drop i) ≤ 2000000000 →
      Ev (fun k => compile_prints.l0 k x3 l (l.length : Int) (i : Int)) (x3 + prL (l.drop i)) := by
    intro d
    induction d with
    | zero =>
      intro i x3 hi hd h3 hb
      obtain rfl : i = l.length := by omega
      refine ⟨1, fun k hk => ?_⟩
      obtain ⟨k, rfl⟩ : ∃ j, k = j + 1 := ⟨k - 1, by omega⟩
      show compile_prints.l0 (k + 1) _ _ _ _ = _
      rw [compile_prints.l0, if_neg (by omega), List.drop_length]
      simp [prL]
    | succ d ihd =>
      intro i x3 hi hd h3 hb
      have hlt : i < l.length := by omega
      have e1 : l.drop i = l[i] :: l.drop (i + 1) := List.drop_eq_getElem_cons hlt
      have r1 : rd_T78 l (i : Int) = l[i] := rd_T78_at l i hlt
      obtain ⟨ih6, ih7⟩ := ih l[i] (List.getElem_mem hlt)
      have hg := getN l i hlt
      have hll := nL_len l
      rw [nN_eq] at hg
      have p6 := pr_le l[i].f6
      have p7 := pr_le l[i].f7
      have ec : prL (l.drop i) = (if l[i].f0 = 1 then 1 else 0) + prL l[i].f6 + prL l[i].f7 + prL (l.drop (i + 1)) := by rw [e1, prL_cons, prN_eq]
      refine Ev.shift (f := fun k => (compile_prints.f k l[i].f6).bind fun a => (compile_prints.f k l[i].f7).bind fun b => (if l[i].f0 = 1 then compile_prints.l0 k (wrap64 (wrap64 (x3 + wrap64 (a + b)) + 1)) l (l.length : Int) (wrap64 ((i : Int) + 1)) else compile_prints.l0 k (wrap64 (x3 + wrap64 (a + b))) l (l.length : Int) (wrap64 ((i : Int) + 1)))) ?_ (fun k => by
        rw [compile_prints.l0, if_pos (by omega), if_pos (by omega), if_pos (by omega), r1])
      refine Ev.bind (ih6 (by omega)) (Ev.bind (ih7 (by omega)) ?_)
      rw [w64 (n := (prL l[i].f6 : Int) + prL l[i].f7) (by omega) (by omega), w64 (n := x3 + ((prL l[i].f6 : Int) + prL l[i].f7)) (by omega) (by omega), w64 (n := (i : Int) + 1) (by omega) (by omega), show ((i : Int) + 1) = ((i + 1 : Nat) : Int) by omega]
      by_cases h1 : l[i].f0 = 1
      · simp only [if_pos h1] at ec ⊢
        rw [w64 (by omega) (by omega)]
        have := ihd (i + 1) (x3 + ((prL l[i].f6 : Int) + prL l[i].f7) + 1) (by omega) (by omega) (by omega) (by rw [ec] at hb; omega)
        rw [show x3 + (prL (l.drop i) : Int) = x3 + ((prL l[i].f6 : Int) + prL l[i].f7) + 1 + (prL (l.drop (i + 1)) : Int) by rw [ec]; omega]
        exact this
      · simp only [if_neg h1] at ec ⊢
        have := ihd (i + 1) (x3 + ((prL l[i].f6 : Int) + prL l[i].f7)) (by omega) (by omega) (by omega) (by rw [ec] at hb; omega)
        rw [show x3 + (prL (l.drop i) : Int) = x3 + ((prL l[i].f6 : Int) + prL l[i].f7) + (prL (l.drop (i + 1)) : Int) by rw [ec]; omega]
        exact this
  have hcl := pr_le l
  obtain ⟨K, hK⟩ := loop l.length 0 0 (by omega) (by omega) (by omega) (by rw [List.drop_zero]; omega)
  refine ⟨K + 1, fun k hk => ?_⟩
  obtain ⟨k, rfl⟩ : ∃ j, k = j + 1 := ⟨k - 1, by omega⟩
  show compile_prints.f (k + 1) l = _
  rw [compile_prints.f]
  have := hK k (by omega)
  dsimp only at this
  rw [List.drop_zero] at this
  refine this.trans (congrArg some ?_)
  omega
theorem prints_all : ∀ (n : Nat) (l : List S78), SizeOf.sizeOf l < n → PE l
  | 0, l, h => absurd h (Nat.not_lt_zero _)
  | n + 1, l, h => prints_step l fun x hx => by
      have h1 := List.sizeOf_lt_of_mem hx
      exact ⟨prints_all n x.f6 (by have := S78.size6 x; omega), prints_all n x.f7 (by have := S78.size7 x; omega)⟩
theorem prints_ev (l : List S78) (h : nL l ≤ 1000000000) : Ev (fun k => compile_prints.f k l) (prL l : Int) := prints_all _ l (Nat.lt_succ_self _) h
theorem prints_any {l : List S78} (h : nL l ≤ 1000000000) (A : Option Addr) (c : Nat) (w : World) (hC : Kd.C k78 w A l.length l) (hc : l.length ≤ c) :
    Calls Tryd.prog 56 #[.slice A l.length c] w fun e w' => e = .returned (.int .i64 (prL l)) ∧ Below w.heap.size w w' := by
  obtain ⟨K, hK⟩ := prints_ev l h
  exact compile_prints.calls K A c l _ w hC hc (hK K (Nat.le_refl _))
end Go.Proofs.YtkpnfejfbmandaaDoor.Px

/- compile.Code: what it computes; the map of the addresses; the calls patched. -/
namespace Go.Proofs.YtkpnfejfbmandaaDoor.Px
open Go.RowKit Go.Proofs.YtkpnfejfbmandaaDoorW.PrintWords Go.Proofs.YtkpnfejfbmandaaDoorW.PrintLast Go.Proofs.YtkpnfejfbmandaaDoorW.PrintMore
open Go.Maps Go.ChangeMaps Go.MapKept
set_option linter.unusedVariables false
set_option linter.unusedSimpArgs false
/-- The main code. -/
def topS : List S78 → List Int → KS → KS
  | [], _, st => st
  | x :: xs, es, st => topS xs (es.drop (prN x)) (if x.f0 = 6 then st else gN x ⟨st.code, es.take (prN x), st.calls⟩)
/-- The definitions' code and their addresses. -/
def defS : List S78 → List Int → KS → List (ByteArray × Int) → KS × List (ByteArray × Int)
  | [], _, st, ad => (st, ad)
  | x :: xs, es, st, ad => if x.f0 = 6 then defS xs (es.drop (prN x)) ((gL x.f6 ⟨st.code, es.take (prN x), st.calls⟩).emit ⟨7, e0, e0, false, 0, 0⟩) (ad ++ [(x.f2, (st.code.length : Int))])
    else defS xs (es.drop (prN x)) st ad
def adOf (ad : List (ByteArray × Int)) (s : ByteArray) : Int := ad.foldl (fun a p => if p.1.data.toList = s.data.toList then p.2 else a) 0
/-- The name at a call's index. -/
def nmA (K : List (Int × ByteArray)) (i : Int) : Option ByteArray := K.foldl (fun a p => if p.1 = i then some p.2 else a) none
def patW (code : List S40) (K : List (Int × ByteArray)) (ad : List (ByteArray × Int)) (P : Nat → Bool) : List S40 :=
  code.mapIdx fun i x => if P i then { x with f5 := adOf ad ((nmA K i).getD e0) } else x
def codeS (l : List S78) (es : List Int) : List S40 :=
  patW (defS l es ((topS l es ⟨[], [], []⟩).emit ⟨9, e0, e0, false, 0, 0⟩) []).1.code (defS l es ((topS l es ⟨[], [], []⟩).emit ⟨9, e0, e0, false, 0, 0⟩) []).1.calls
    (defS l es ((topS l es ⟨[], [], []⟩).emit ⟨9, e0, e0, false, 0, 0⟩) []).2 fun i => (nmA (defS l es ((topS l es ⟨[], [], []⟩).emit ⟨9, e0, e0, false, 0, 0⟩) []).1.calls i).isSome
def codeF (l : List S78) : List S40 × Int × Int :=
  if (checkF l).2 = 0 then (if (inferF l).2.2 = 0 then (codeS l (inferF l).1, 0, 0) else ([], (inferF l).2.1, (inferF l).2.2)) else ([], (checkF l).1, (checkF l).2)
theorem adOf_snoc (ad : List (ByteArray × Int)) (p : ByteArray × Int) (s : ByteArray) : adOf (ad ++ [p]) s = if p.1.data.toList = s.data.toList then p.2 else adOf ad s := by unfold adOf; rw [List.foldl_append]; rfl
theorem nmA_snoc (K : List (Int × ByteArray)) (p : Int × ByteArray) (i : Int) : nmA (K ++ [p]) i = if p.1 = i then some p.2 else nmA K i := by unfold nmA; rw [List.foldl_append]; rfl
theorem nmA_mem {K : List (Int × ByteArray)} {i : Int} {s : ByteArray} (h : nmA K i = some s) : (i, s) ∈ K := by
  unfold nmA at h
  suffices ∀ (l : List (Int × ByteArray)) (a : Option ByteArray), l.foldl (fun a p => if p.1 = i then some p.2 else a) a = some s → (i, s) ∈ l ∨ a = some s from (this K none h).resolve_right (by simp)
  intro l
  induction l with
  | nil => exact fun a h => .inr h
  | cons p l ih =>
    intro a h
    rcases ih _ h with h | h
    · exact .inl (List.mem_cons_of_mem _ h)
    · dsimp only at h
      by_cases e : p.1 = i
      · rw [if_pos e] at h
        left
        obtain rfl := Option.some.inj h
        rw [← e]
        exact List.mem_cons_self
      · rw [if_neg e] at h
        exact .inr h
theorem mpD_isMap (l : List (Int × ByteArray)) : Go.Maps.IsMap (mpD l) := by
  unfold mpD
  suffices ∀ (l : List (Int × ByteArray)) (D : DataW Unit), Go.Maps.IsMap D → Go.Maps.IsMap (l.foldl (fun D p => D.put (.int .i64 p.1) (.lit (.string p.2.data.toList))) D) from this l _ isMap_empty
  intro l
  induction l with
  | nil => exact fun _ h => h
  | cons p l ih => exact fun D h => ih _ (h.put _ _)
theorem mpD_at (l : List (Int × ByteArray)) : ∀ i : Int, Go.Maps.has (mpD l) (.int .i64 i) = (nmA l i).isSome ∧ ∀ s, nmA l i = some s → ∀ zd, (mpD l).atKey (.int .i64 i) zd = .lit (.string s.data.toList) := by
  suffices ∀ (r : List (Int × ByteArray)) (i : Int), Go.Maps.has (mpD r.reverse) (.int .i64 i) = (nmA r.reverse i).isSome ∧ ∀ s, nmA r.reverse i = some s → ∀ zd, (mpD r.reverse).atKey (.int .i64 i) zd = .lit (.string s.data.toList) by
    have := this l.reverse
    rwa [List.reverse_reverse] at this
  intro r
  induction r with
  | nil => exact fun i => ⟨rfl, fun s h => by simp [nmA] at h⟩
  | cons p r ih =>
    intro i
    rw [List.reverse_cons, mpD_snoc, nmA_snoc]
    by_cases e : p.1 = i
    · subst e
      rw [if_pos rfl, has_put_same (mpD_isMap _) (show WideAt.IsKeyLit (Lit.int .i64 p.1) from trivial)]
      exact ⟨rfl, fun s h zd => by rw [atKey_put_same (mpD_isMap _) (show WideAt.IsKeyLit (Lit.int .i64 p.1) from trivial)]; obtain rfl := Option.some.inj h; rfl⟩
    · have hne : (Lit.int .i64 i) ≠ Lit.int .i64 p.1 := fun h => e (by simpa using h.symm)
      rw [if_neg e, has_put_other hne]
      exact ⟨(ih i).1, fun s h zd => by rw [atKey_put_other hne]; exact (ih i).2 s h zd⟩
theorem patW_len (code : List S40) (K ad P) : (patW code K ad P).length = code.length := by simp [patW]
theorem patW_none (code : List S40) (K ad) : patW code K ad (fun _ => false) = code := by
  unfold patW
  apply List.ext_getElem?
  intro i
  rw [List.getElem?_mapIdx]
  simp
theorem patW_congr {code : List S40} {K ad} {P Q : Nat → Bool} (h : ∀ i, P i = Q i) : patW code K ad P = patW code K ad Q := by rw [funext h]
theorem patW_set {code : List S40} {K : List (Int × ByteArray)} {ad : List (ByteArray × Int)} {P : Nat → Bool} {i : Nat} {s : ByteArray} (hs : nmA K i = some s) :
    setTo (patW code K ad P) i (adOf ad s) = patW code K ad (fun j => P j || decide (j = i)) := by
  unfold patW setTo
  apply List.ext_getElem?
  intro j
  rw [List.getElem?_modify, List.getElem?_mapIdx, List.getElem?_mapIdx]
  cases code[j]? with
  | none => rfl
  | some x =>
    simp only [Option.map_some, Option.map_eq_map]
    by_cases hij : i = j
    · subst hij
      rw [if_pos rfl, hs, if_pos (by simp : (P i || decide (i = i)) = true)]
      by_cases hP : P i = true
      · rw [if_pos hP]; rfl
      · rw [if_neg hP]; rfl
    · have hij' : ¬ j = i := fun e => hij e.symm
      rw [if_neg hij]
      simp [hij']
/-- Block b is the map of these addresses. -/
structure MpA (w : World) (b : Nat) (ad : List (ByteArray × Int)) (n : Nat) (D : DataW Unit) : Prop where
  own : w.ownsMap Tryd.prog 9 (plainElem Tryd.prog 3) b n D
  le : n ≤ ad.length
  at_ : ∀ s : ByteArray, D.atKey (kS s) (.lit (.int .i64 0)) = .lit (.int .i64 (adOf ad s))
theorem zero3 (w : World) : (zeroValue 3).run Tryd.prog w = .ok (.int .i64 0) w := by kernel_rfl
theorem wf64 {a : Int} (h0 : 0 ≤ a) (h1 : a ≤ 1000000000000) : (Lit.int .i64 a).wf = true := by have h1 : IntKind.i64.min = -9223372036854775808 := (by decide); have h2 : IntKind.i64.max = 9223372036854775807 := (by decide); simp [Lit.wf, h1, h2]; omega
theorem MpA.look {w : World} {b : Nat} {ad : List (ByteArray × Int)} {n : Nat} {D : DataW Unit} (h : MpA w b ad n D) (s : ByteArray) (hs : s.size ≤ 65536) : (Instr.lookup 127 (.map (some b)) (.string s) false).run Tryd.prog w = .ok (.int .i64 (adOf ad s)) w := by
  obtain ⟨v, ps, hr, hv⟩ := h.own.lookup law9 Tryd.underlying127 (zero3 w) (plainElem_int (H := Unit) Tryd.underlying3 (a := 0) (wf64 (by decide) (by decide))) (Go.WideMaps.keyOf_string_mk Tryd.underlying9 (show s.size ≤ maxLen by unfold maxLen; omega))
  rw [show (Lit.string s.data.toList) = kS s from rfl, h.at_ s] at hv
  obtain ⟨a, rfl, e, _⟩ := plainElem_int_inv Tryd.underlying3 hv
  rw [hr]
  have : adOf ad s = a := by simpa using congrArg Prod.fst e
  rw [this]
theorem MpA.start (w : World) : MpA (w.alloc (.map #[] 0)) w.heap.size [] 0 (.map []) := ⟨World.ownsMap_made _ _ _ _, Nat.le_refl _, fun s => rfl⟩
theorem MpA.put {w w1 : World} {b : Nat} {ad : List (ByteArray × Int)} {n : Nat} {D : DataW Unit} (h : MpA w b ad n D) (x : ByteArray) (q : Int)
    (h1 : w1.ownsMap Tryd.prog 9 (plainElem Tryd.prog 3) b (n + 1) (D.put (kS x) (.lit (.int .i64 q)))) : MpA w1 b (ad ++ [(x, q)]) (n + 1) (D.put (kS x) (.lit (.int .i64 q))) := by
  have ht := h.own.tidy law9
  refine ⟨h1, ?_, fun s => ?_⟩
  · rw [List.length_append]; exact Nat.add_le_add_right h.le 1
  · rw [adOf_snoc]
    dsimp only
    by_cases e : x.data.toList = s.data.toList
    · rw [if_pos e, show kS x = kS s by unfold kS; rw [e], atKey_put_same ht.isMap (kS_key s)]
    · rw [if_neg e, atKey_put_other (fun q => e (by unfold kS at q; simpa using q.symm)), h.at_]
theorem MpA.move {w w1 : World} {b : Nat} {ad : List (ByteArray × Int)} {n : Nat} {D : DataW Unit} (h : MpA w b ad n D) (hb : w1.heap[b]? = w.heap[b]?) : MpA w1 b ad n D := by
  obtain ⟨⟨es, clock, h1, h2, h3, h4⟩, a1, a2⟩ := h
  exact ⟨⟨es, clock, hb.trans h1, h2, h3, h4⟩, a1, a2⟩
theorem MpA.lt {w b ad n D} (h : MpA w b ad n D) : b < w.heap.size := h.own.lt
theorem MpA.alloc {w b ad n D} (h : MpA w b ad n D) (o : Obj) : MpA (w.alloc o) b ad n D := h.move (Below.heap_alloc w o b h.lt)
theorem MpA.drew {w b ad n D} (h : MpA w b ad n D) : MpA w.drew b ad n D := h.move rfl
theorem MpA.at_blk {w b ad n D} (h : MpA w b ad n D) : ∃ es clock, w.heap[b]? = some (.map es clock) := by
  obtain ⟨⟨es, clock, h1, _⟩, _⟩ := h
  exact ⟨es, clock, h1⟩
theorem map_ne_row {w : World} {b : Nat} {es : Array MapEntry} {clock : Nat} {w0 g b1 b2 v code A c left} (h1 : w.heap[b]? = some (.map es clock)) (hS : KIn w0 g b1 b2 v code A c left w) : some b ≠ v.ownBlock := by
  intro e
  obtain ⟨_, inner, ho, _⟩ := hS.own
  rcases ho.2 with ⟨rfl, _⟩ | ⟨g', cap, cur, rfl, _, hh, _⟩
  · cases e
  · obtain rfl : b = g' := by simpa [Value.ownBlock] using e
    rw [hh] at h1
    cases h1
theorem map_ne_g {w : World} {b : Nat} {es : Array MapEntry} {clock : Nat} {w0 g b1 b2 v code A c left} (h1 : w.heap[b]? = some (.map es clock)) (hS : KIn w0 g b1 b2 v code A c left w) : b ≠ g := by
  rintro rfl
  rw [hS.blk] at h1
  cases h1
theorem MpA.kept {w b ad n D w0 g b1 b2 v v2 code A c left code2 A2 c2 left2 W} (h : MpA w b ad n D) (hne : b ≠ b2) (hS : KIn w0 g b1 b2 v code A c left w) (hO : KOut w0 w g b1 b2 (some b2) v v2 code2 A2 c2 left2 W) : MpA W b ad n D := by
  obtain ⟨es, clock, h1⟩ := h.at_blk
  exact h.move (hO.keep.2 b h.lt (map_ne_g h1 hS) (by simpa using hne) (map_ne_row h1 hS))
/-- The state of Code: the compiler, the calls, the escapers' map, the variable that holds the compiler. -/
structure CS (w0 : World) (g b1 b2 p : Nat) (vs : List Value) (v : Value) (st : KS) (A : Option Addr) (c : Nat) (W : World) : Prop where
  k : KIn w0 g b1 b2 v st.code A c st.left W
  m : MpC W b2 st.calls
  e : EscB W b1 vs
  pb : W.heap[p]? = some (.cells #[.pointer (some ⟨g, 0, none⟩)] 118 (0, 0))
theorem CS.alloc {w0 g b1 b2 p vs v st A c W} (h : CS w0 g b1 b2 p vs v st A c W) (o : Obj) : CS w0 g b1 b2 p vs v st A c (W.alloc o) := ⟨h.k.alloc o, h.m.alloc o, h.e.alloc o, blk_alloc h.pb o⟩
theorem CS.drew {w0 g b1 b2 p vs v st A c W} (h : CS w0 g b1 b2 p vs v st A c W) : CS w0 g b1 b2 p vs v st A c W.drew := ⟨h.k.drew, h.m.drew, h.e.drew, h.pb⟩
theorem CS.call {w0 g b1 b2 p vs v st A c W v2 A2 c2 W2} {st2 : KS} (h : CS w0 g b1 b2 p vs v st A c W) (hne : b1 ≠ b2) (hO : KOut w0 W g b1 b2 (some b2) v v2 st2.code A2 c2 st2.left W2) (hM : MpC W2 b2 st2.calls) : CS w0 g b1 b2 p vs v2 st2 A2 c2 W2 :=
  ⟨hO.st, hM, h.e.kept hne h.k hO, KOut.boxed2 h.k h.m hO h.pb (by decide) (by decide)⟩
theorem KIn.below {w0 g b1 b2 v code A c left W W2} (h : KIn w0 g b1 b2 v code A c left W) (hb : Below W.heap.size W W2) : KIn w0 g b1 b2 v code A c left W2 := ⟨blk_below h.blk hb, Kd.R_below h.own hb, h.lf, h.le, below_weaken h.bel h.bel.size hb, h.ge⟩
theorem CS.below {w0 g b1 b2 p vs v st A c W W2} (h : CS w0 g b1 b2 p vs v st A c W) (hb : Below W.heap.size W W2) : CS w0 g b1 b2 p vs v st A c W2 :=
  ⟨h.k.below hb, h.m.move (hb.block _ h.m.lt), h.e.move (hb.block _ h.e.lt), blk_below h.pb hb⟩
/-- The escapers of node i. -/
def esI (l : List S78) (es : List Int) (i : Nat) : List Int := (es.drop (prL (l.take i))).take (prN (rd_T78 l i))
/-- The values of the escapers' map. -/
def VsOk (w0 : World) (l : List S78) (es : List Int) (vs : List Value) : Prop := ∀ i, i < vs.length → ∃ A c, vs[i]? = some (.slice A (esI l es i).length c) ∧ Kd.C (Kd.int .i64) w0 A (esI l es i).length (esI l es i) ∧ (esI l es i).length ≤ c
mutual
theorem eL_pr : ∀ l : List S78, eL l ≤ prL l
  | [] => by simp [eL, prL]
  | x :: xs => by have := eL_pr xs; have := eN_pr x; rw [eL, prL_cons]; omega
theorem eN_pr : ∀ x : S78, eN x ≤ prN x
  | ⟨k, _, _, _, _, f5, b, l⟩ => by
    have := eL_pr b; have := eL_pr l
    rw [eN, prN_eq]; dsimp only
    by_cases h1 : k = 1
    · rw [if_pos h1, if_pos h1]; omega
    · rw [if_neg h1, if_neg h1]
      by_cases h2 : k = 2
      · rw [if_pos h2]; cases f5 <;> simp <;> omega
      · rw [if_neg h2]
        by_cases h3 : k = 3
        · rw [if_pos h3]; omega
        · rw [if_neg h3]; omega
end
theorem prL_append : ∀ (xs ys : List S78), prL (xs ++ ys) = prL xs + prL ys
  | [], ys => by simp [prL]
  | x :: xs, ys => by rw [List.cons_append, prL_cons, prL_cons, prL_append xs ys]; omega
theorem prL_take_succ (l : List S78) (i : Nat) (hi : i < l.length) : prL (l.take (i + 1)) = prL (l.take i) + prN l[i] := by
  rw [List.take_succ_eq_append_getElem hi, prL_append, prL_one]
theorem prL_take_le (l : List S78) (i : Nat) : prL (l.take i) ≤ prL l := by
  have := prL_append (l.take i) (l.drop i)
  rw [List.take_append_drop] at this
  omega
end Go.Proofs.YtkpnfejfbmandaaDoor.Px

/- compile.Code: walk. -/
namespace Go.Proofs.YtkpnfejfbmandaaDoor.Px
open Go.RowKit Go.Proofs.YtkpnfejfbmandaaDoorW.PrintWords Go.Proofs.YtkpnfejfbmandaaDoorW.PrintLast Go.Proofs.YtkpnfejfbmandaaDoorW.PrintMore
open Go.Maps Go.ChangeMaps Go.MapKept
set_option linter.unusedVariables false
set_option linter.unusedSimpArgs false
theorem prints1 {x : S78} (h : nN x ≤ 1000000000) {B : Nat} {A6 A7 : Option Addr} {c6 c7 : Nat} (W : World) (hb : W.heap[B]? = some (.cells (nodC x A6 A7 c6 c7) 78 (0, 0))) (l6 : x.f6.length ≤ c6) (g6 : Kd.C k78 W A6 x.f6.length x.f6) (l7 : x.f7.length ≤ c7) (g7 : Kd.C k78 W A7 x.f7.length x.f7) :
    Calls Tryd.prog 56 #[.slice (some ⟨B, 0, none⟩) 1 1] W fun e w' => e = .returned (.int .i64 (prN x)) ∧ Below W.heap.size W w' := by
  rw [← prL_one x]
  exact prints_any (l := [x]) (by rw [nL_one]; exact h) (some ⟨B, 0, none⟩) 1 W (C_box hb l6 g6 l7 g7) (Nat.le_refl _)
/-- Where the first loop stands. -/
structure L1 (w0 : World) (g b1 b2 p : Nat) (l : List S78) (es : List Int) (i : Nat) (vs : List Value) (Ar : Option Addr) (cr : Nat) (W : World) : Prop where
  s : CS w0 g b1 b2 p vs (.slice none 0 0) ⟨[], [], []⟩ none 0 W
  len : vs.length = i
  vs : VsOk w0 l es vs
  rest : Kd.C (Kd.int .i64) w0 Ar (es.drop (prL (l.take i))).length (es.drop (prL (l.take i)))
  le : (es.drop (prL (l.take i))).length ≤ cr
theorem L1.step {w0 g b1 b2 p l es i vs Ar cr W} (h : L1 w0 g b1 b2 p l es i vs Ar cr W) (hi : i < l.length) (hpr : prL l ≤ es.length) (hne : b1 ≠ b2) (hb1 : w0.heap.size ≤ b1) :
    L1 w0 g b1 b2 p l es (i + 1) (vs ++ [.slice Ar (prN l[i]) cr]) (if cr = prN l[i] then Ar else Ar.map (·.add (prN l[i] * 1))) (cr - prN l[i]) (mapW W b1 (escL (vs ++ [.slice Ar (prN l[i]) cr])).toArray (vs.length + 1)) := by
  have hg := mapW_grown h.s.e (escL (vs ++ [.slice Ar (prN l[i]) cr])).toArray (vs.length + 1)
  have ht := prL_take_succ l i hi
  have htl := prL_take_le l (i + 1)
  have hrl : prN l[i] ≤ (es.drop (prL (l.take i))).length := by rw [List.length_drop]; omega
  have hed : es.drop (prL (l.take (i + 1))) = (es.drop (prL (l.take i))).drop (prN l[i]) := by rw [List.drop_drop, ht]
  have hr : rd_T78 l (i : Int) = l[i] := by unfold rd_T78; simp [List.getD, hi]
  have hei : esI l es i = (es.drop (prL (l.take i))).take (prN l[i]) := by unfold esI; rw [hr]
  have heil : (esI l es i).length = prN l[i] := by rw [hei, List.length_take]; omega
  refine ⟨⟨?_, ?_, h.s.e.stored _, ?_⟩, by rw [List.length_append, h.len]; rfl, ?_, ?_, ?_⟩
  · refine ⟨blk_grown h.s.k.blk hg (fun e => (h.s.e.ne_g h.s.k) (by simpa using e.symm)), Kd.R_nil _ _ _ _ _, h.s.k.lf, h.s.k.le, h.s.k.bel.grown hg h.s.k.bel.size (fun k hk => by cases hk; exact hb1), h.s.k.ge⟩
  · exact h.s.m.move (hg.block _ h.s.m.lt (by simpa using hne.symm))
  · refine blk_grown h.s.pb hg ?_
    intro e
    have e1 : p = b1 := by simpa using e
    have h1 : W.heap[b1]? = _ := h.s.e
    rw [← e1, h.s.pb] at h1
    cases h1
  · intro j hj
    rw [List.length_append, List.length_singleton] at hj
    by_cases e : j < vs.length
    · obtain ⟨A, c, h1, h2, h3⟩ := h.vs j e
      exact ⟨A, c, by rw [List.getElem?_append_left e]; exact h1, h2, h3⟩
    · have hvl := h.len
      have ej : j = i := by omega
      rw [ej]
      refine ⟨Ar, cr, ?_, ?_, ?_⟩
      · rw [List.getElem?_append_right (Nat.le_of_eq hvl), hvl, Nat.sub_self, heil]; rfl
      · rw [hei]; exact Kd.C_take h.rest hrl
      · rw [heil]; exact Nat.le_trans hrl h.le
  · rw [hed]
    exact Kd.C_drop h.rest hrl h.le
  · rw [hed, List.length_drop]
    have := h.le
    omega
/-- Maps other than the calls' are there as they were. -/
def MKept (b2 : Nat) (W W2 : World) : Prop := ∀ k es clock, k ≠ b2 → W.heap[k]? = some (.map es clock) → W2.heap[k]? = some (.map es clock)
theorem MKept.of {w0 w : World} {g b1 b2 : Nat} {v v2 : Value} {code A c left code2 A2 c2 left2 W} (hS : KIn w0 g b1 b2 v code A c left w) (hO : KOut w0 w g b1 b2 (some b2) v v2 code2 A2 c2 left2 W) : MKept b2 w W :=
  fun k es clock hne h => (hO.keep.2 k (Array.getElem?_eq_some_iff.1 h).1 (map_ne_g h hS) (by simpa using hne) (map_ne_row h hS)).trans h
theorem MKept.trans {b2 W W2 W3} (h : MKept b2 W W2) (k : MKept b2 W2 W3) : MKept b2 W W3 := fun i es clock hne hi => k i es clock hne (h i es clock hne hi)
theorem MKept.ma {b2 W W2 b ad n D} (h : MKept b2 W W2) (hM : MpA W b ad n D) (hne : b ≠ b2) : MpA W2 b ad n D := by
  obtain ⟨es, clock, h1⟩ := hM.at_blk
  exact hM.move ((h b es clock hne h1).trans h1.symm)
/-- What a call of Code$1 leaves. -/
def TopQ (w0 : World) (g b1 b2 p : Nat) (vs : List Value) (W : World) (R : KS) (w' : World) : Prop := (∃ v' A' c', CS w0 g b1 b2 p vs v' R A' c' w') ∧ MKept b2 W w'
theorem top_main (x : S78) {w0 g b1 b2 p vs v st A c W} (h : CS w0 g b1 b2 p vs v st A c W) (hne : b1 ≠ b2) (i : Nat) (esi : List Int) (A' : Option Addr) (c' : Nat) (hv : vs[i]? = some (.slice A' esi.length c')) (hCe : Kd.C (Kd.int .i64) w0 A' esi.length esi) (hle : esi.length ≤ c')
    (B : Nat) (A6 A7 : Option Addr) (c6 c7 : Nat) (hb : W.heap[B]? = some (.cells (nodC x A6 A7 c6 c7) 78 (0, 0))) (hC6 : Kd.C k78 w0 A6 x.f6.length x.f6) (hc6 : x.f6.length ≤ c6) (hC7 : Kd.C k78 w0 A7 x.f7.length x.f7) (hc7 : x.f7.length ≤ c7) (hb2 : w0.heap.size ≤ b2)
    (hsm : smN x) (he : eN x ≤ esi.length) (hlc : st.calls.length + nN x ≤ 1000000) (hlen : st.code.length + 2 * nN x ≤ 1000000) :
    Calls Tryd.prog 57 #[.int .i64 i, .slice (some ⟨B, 0, none⟩) 1 1, .pointer (some ⟨p, 0, none⟩)] W fun e w' => e = .returned (.tuple #[]) ∧ TopQ w0 g b1 b2 p vs W (gN x ⟨st.code, esi, st.calls⟩) w' := by
  refine top_any i _ esi A' c' p W h.k vs h.e hv hCe hle h.pb _ fun W2 hO => ?_
  have hM2 := h.m.kept h.k hO
  have hb' := KOut.boxed h.k hO hb (by decide) (by decide)
  have hcs : CS w0 g b1 b2 p vs v ⟨st.code, esi, st.calls⟩ A' c' W2 := h.call (st2 := ⟨st.code, esi, st.calls⟩) hne (hO.more _) hM2
  refine (list1_any x (gNode.any x (gen_list _) fun hk => gBranch.any x hk (gen_list _) (gen_list _)) w0 g b1 b2 v ⟨st.code, esi, st.calls⟩ A' A6 A7 c' c6 c7 B W2 hO.st hM2 hb2 hb' hC6 hc6 hC7 hc7 hsm he hlc hlen).mono ?_
  rintro e w3 ⟨rfl, v', A2, c2, h3, hM3⟩
  exact ⟨rfl, ⟨v', A2, c2, hcs.call hne h3 hM3⟩, (MKept.of h.k (hO.more _)).trans (MKept.of hO.st h3)⟩
theorem top_def (l : List S78) {w0 g b1 b2 p vs v st A c W} (h : CS w0 g b1 b2 p vs v st A c W) (hne : b1 ≠ b2) (i : Nat) (esi : List Int) (A' : Option Addr) (c' : Nat) (hv : vs[i]? = some (.slice A' esi.length c')) (hCe : Kd.C (Kd.int .i64) w0 A' esi.length esi) (hle : esi.length ≤ c')
    (A6 : Option Addr) (c6 : Nat) (hC6 : Kd.C k78 w0 A6 l.length l) (hc6 : l.length ≤ c6) (hb2 : w0.heap.size ≤ b2)
    (hsm : smL l) (he : eL l ≤ esi.length) (hlc : st.calls.length + nL l ≤ 1000000) (hlen : st.code.length + 2 * nL l ≤ 1000000) :
    Calls Tryd.prog 57 #[.int .i64 i, .slice A6 l.length c6, .pointer (some ⟨p, 0, none⟩)] W fun e w' => e = .returned (.tuple #[]) ∧ TopQ w0 g b1 b2 p vs W (gL l ⟨st.code, esi, st.calls⟩) w' := by
  refine top_any i _ esi A' c' p W h.k vs h.e hv hCe hle h.pb _ fun W2 hO => ?_
  have hM2 := h.m.kept h.k hO
  have hcs : CS w0 g b1 b2 p vs v ⟨st.code, esi, st.calls⟩ A' c' W2 := h.call (st2 := ⟨st.code, esi, st.calls⟩) hne (hO.more _) hM2
  refine (gen_list l w0 g b1 b2 v ⟨st.code, esi, st.calls⟩ A' A6 c' c6 W2 hO.st hM2 hb2 hC6 hc6 hsm he hlc hlen).mono ?_
  rintro e w3 ⟨rfl, v', A2, c2, h3, hM3⟩
  exact ⟨rfl, ⟨v', A2, c2, hcs.call hne h3 hM3⟩, (MKept.of h.k (hO.more _)).trans (MKept.of hO.st h3)⟩
/-- emit, in Code's own terms. -/
theorem emit_cs {w0 g b1 b2 p vs v st A c W} (h : CS w0 g b1 b2 p vs v st A c W) (hne : b1 ≠ b2) (x : S40) (hl : st.code.length ≤ 1000000) :
    Calls Tryd.prog 59 #[.pointer (some ⟨g, 0, none⟩), .agg #[.int .i64 x.f0, .string x.f1, .string x.f2, .bool x.f3, .int .i64 x.f4, .int .i64 x.f5]] W fun e w' => e = .returned (.int .i64 st.code.length) ∧ TopQ w0 g b1 b2 p vs W (st.emit x) w' := by
  refine (emit_any x W h.k hl).mono ?_
  rintro e w3 ⟨rfl, v', h3⟩
  exact ⟨rfl, ⟨v', A, c, h.call (st2 := st.emit x) hne (h3.more _) (h.m.kept h.k h3)⟩, MKept.of h.k (h3.more _)⟩
end Go.Proofs.YtkpnfejfbmandaaDoor.Px

/- compile: the calls lie within the code (plain law). -/
namespace Go.Proofs.YtkpnfejfbmandaaDoor.Px
open Go.RowKit Go.Proofs.YtkpnfejfbmandaaDoorW.PrintWords Go.Proofs.YtkpnfejfbmandaaDoorW.PrintLast Go.Proofs.YtkpnfejfbmandaaDoorW.PrintMore
set_option linter.unusedVariables false
set_option linter.unusedSimpArgs false
def KOk2 (st : KS) : Prop := ∀ q ∈ st.calls, ∃ j : Nat, q.1 = (j : Int) ∧ j < st.code.length ∧ q.2.size ≤ 65536
theorem KOk2.emit {st : KS} (h : KOk2 st) (x : S40) : KOk2 (st.emit x) := fun q hq => by
  obtain ⟨j, h1, h2, h3⟩ := h q hq
  exact ⟨j, h1, by simp only [KS.emit, List.length_append, List.length_singleton]; omega, h3⟩
theorem KOk2.land {st : KS} (h : KOk2 st) (i : Nat) : KOk2 (st.land i) := fun q hq => by
  obtain ⟨j, h1, h2, h3⟩ := h q hq
  exact ⟨j, h1, by simp only [KS.land, setTo_length]; exact h2, h3⟩
mutual
theorem gL_kok : ∀ (l : List S78) (st : KS), smL l → KOk2 st → KOk2 (gL l st)
  | [], st, _, h => by rw [gL]; exact h
  | x :: xs, st, hs, h => by rw [gL]; exact gL_kok xs _ hs.2 (gN_kok x st hs.1 h)
theorem gN_kok : ∀ (x : S78) (st : KS), smN x → KOk2 st → KOk2 (gN x st)
  | ⟨k, at_, S, nm, f4, f5, b, l⟩, st, hs, h => by
    rw [gN]
    by_cases h0 : k = 0
    · rw [if_pos h0]; exact h.emit _
    rw [if_neg h0]
    by_cases h1 : k = 1
    · rw [if_pos h1]; exact h.emit ⟨1, e0, nm, false, rdOf 0 st.left 0, 0⟩
    rw [if_neg h1]
    by_cases h2 : k = 2
    · rw [if_pos h2]
      cases f5
      · rw [if_neg (by decide)]
        exact (gL_kok b _ hs.2.1 (h.emit _)).land _
      · rw [if_pos rfl]
        exact (gL_kok l _ hs.2.2 (((gL_kok b _ hs.2.1 (h.emit _)).emit _).land _)).land _
    rw [if_neg h2]
    by_cases h3 : k = 3
    · rw [if_pos h3]; exact ((gL_kok b _ hs.2.1 (h.emit _)).emit _).land _
    rw [if_neg h3]
    by_cases h4 : k = 4
    · rw [if_pos h4]
      intro q hq
      rcases List.mem_append.1 hq with hq | hq
      · exact (h.emit ⟨6, e0, nm, f4, 0, 0⟩) q hq
      · rw [List.mem_singleton] at hq
        subst hq
        exact ⟨st.code.length, rfl, by simp, hs.1⟩
    rw [if_neg h4]
    by_cases h5 : k = 5
    · rw [if_pos h5]; exact h.emit _
    rw [if_neg h5]; exact h
end
theorem KOk2.left {st : KS} (h : KOk2 st) (es : List Int) : KOk2 ⟨st.code, es, st.calls⟩ := h
theorem topS_kok : ∀ (l : List S78) (es : List Int) (st : KS), smL l → KOk2 st → KOk2 (topS l es st)
  | [], es, st, _, h => h
  | x :: xs, es, st, hs, h => by
    rw [topS]
    refine topS_kok xs _ _ hs.2 ?_
    split
    · exact h
    · exact gN_kok x _ hs.1 (h.left _)
theorem defS_kok : ∀ (l : List S78) (es : List Int) (st : KS) (ad : List (ByteArray × Int)), smL l → KOk2 st → KOk2 (defS l es st ad).1
  | [], es, st, ad, _, h => h
  | x :: xs, es, st, ad, hs, h => by
    rw [defS]
    split
    · have hx : smL x.f6 := by have := hs.1; cases x; simp only [smN] at this; exact this.2.1
      exact defS_kok xs _ _ _ hs.2 ((gL_kok x.f6 _ hx (h.left _)).emit _)
    · exact defS_kok xs _ _ _ hs.2 h
theorem code_kok {l : List S78} (es : List Int) (hs : smL l) : KOk2 (defS l es ((topS l es ⟨[], [], []⟩).emit ⟨9, e0, e0, false, 0, 0⟩) []).1 :=
  defS_kok l es _ _ hs ((topS_kok l es _ hs (fun q hq => by cases hq)).emit _)
end Go.Proofs.YtkpnfejfbmandaaDoor.Px

/- compile.Code: the walk. -/
namespace Go.Proofs.YtkpnfejfbmandaaDoor.Px
open Go.RowKit Go.Proofs.YtkpnfejfbmandaaDoorW.PrintWords Go.Proofs.YtkpnfejfbmandaaDoorW.PrintLast Go.Proofs.YtkpnfejfbmandaaDoorW.PrintMore
open Go.Maps Go.ChangeMaps Go.MapKept
set_option linter.unusedVariables false
set_option linter.unusedSimpArgs false
/-- Where the second loop stands. -/
structure L2 (w0 : World) (g b1 b2 p : Nat) (l : List S78) (es : List Int) (vs : List Value) (R : KS) (i : Nat) (v : Value) (A : Option Addr) (c : Nat) (st : KS) (W : World) : Prop where
  s : CS w0 g b1 b2 p vs v st A c W
  eq : topS (l.drop i) (es.drop (prL (l.take i))) st = R
  lc : st.calls.length + nL (l.drop i) ≤ nL l
  len : st.code.length + 2 * nL (l.drop i) ≤ 2 * nL l
theorem esI_len {l : List S78} {es : List Int} {i : Nat} (hi : i < l.length) (hpr : prL l ≤ es.length) : esI l es i = (es.drop (prL (l.take i))).take (prN l[i]) ∧ (esI l es i).length = prN l[i] := by
  have hr : rd_T78 l (i : Int) = l[i] := by unfold rd_T78; simp [List.getD, hi]
  have ht := prL_take_succ l i hi
  have htl := prL_take_le l (i + 1)
  have e : esI l es i = (es.drop (prL (l.take i))).take (prN l[i]) := by unfold esI; rw [hr]
  exact ⟨e, by rw [e, List.length_take, List.length_drop]; omega⟩
theorem L2.same {w0 g b1 b2 p l es vs R i v A c st W W2} (h : L2 w0 g b1 b2 p l es vs R i v A c st W) (hi : i < l.length) (h6 : l[i].f0 = 6) (hs : CS w0 g b1 b2 p vs v st A c W2) : L2 w0 g b1 b2 p l es vs R (i + 1) v A c st W2 := by
  have hd : l.drop i = l[i] :: l.drop (i + 1) := List.drop_eq_getElem_cons hi
  have he := h.eq
  have h1 := h.lc
  have h2 := h.len
  rw [hd, topS, if_pos h6, List.drop_drop, ← prL_take_succ l i hi] at he
  rw [hd, nL_cons] at h1 h2
  exact ⟨hs, he, by omega, by omega⟩
theorem L2.next {w0 g b1 b2 p l es vs R i v A c st W W2 v2 A2 c2} (h : L2 w0 g b1 b2 p l es vs R i v A c st W) (hi : i < l.length) (hpr : prL l ≤ es.length) (h6 : l[i].f0 ≠ 6) (hs : CS w0 g b1 b2 p vs v2 (gN l[i] ⟨st.code, esI l es i, st.calls⟩) A2 c2 W2) : L2 w0 g b1 b2 p l es vs R (i + 1) v2 A2 c2 (gN l[i] ⟨st.code, esI l es i, st.calls⟩) W2 := by
  have hd : l.drop i = l[i] :: l.drop (i + 1) := List.drop_eq_getElem_cons hi
  have he := h.eq
  have h1 := h.lc
  have h2 := h.len
  rw [hd, topS, if_neg h6, List.drop_drop, ← prL_take_succ l i hi, ← (esI_len hi hpr).1] at he
  rw [hd, nL_cons] at h1 h2
  have h3 := gN_len l[i] ⟨st.code, esI l es i, st.calls⟩
  have h4 := gN_calls_len l[i] ⟨st.code, esI l es i, st.calls⟩
  dsimp only at h3 h4
  exact ⟨hs, he, by omega, by omega⟩
theorem KIn.moved {w0 g b1 b2 v code A c left W W3} (h : KIn w0 g b1 b2 v code A c left W) {k0 : Nat} {o : Obj} (ho : W.heap[k0]? = some o) (hno : ∀ cs t fz, o ≠ .cells cs t fz) (hb : w0.heap.size ≤ k0) (hg : W.grownBy W3 (some k0)) : KIn w0 g b1 b2 v code A c left W3 := by
  have hne : k0 ≠ g := by
    rintro rfl
    rw [h.blk] at ho
    exact hno _ _ _ (Option.some.inj ho).symm
  refine ⟨blk_grown h.blk hg (fun e => hne (by simpa using e.symm)), ?_, h.lf, h.le, h.bel.grown hg h.bel.size (fun k hk => by cases hk; exact hb), h.ge⟩
  refine Kd.R_mono (Kd.R_step (Kd.R_bound h.own) (fun k hk _ => hg.block k hk.2.2.1 ?_)) (fun k hk => hk.1)
  intro e
  obtain rfl : k = k0 := by simpa using e
  obtain ⟨q, _, cells, hc⟩ := hk.2.2.2
  rw [ho] at hc
  exact hno _ _ _ (Option.some.inj hc)
theorem CS.moved {w0 g b1 b2 p vs v st A c W W3} (h : CS w0 g b1 b2 p vs v st A c W) {k0 : Nat} {o : Obj} (ho : W.heap[k0]? = some o) (hno : ∀ cs t fz, o ≠ .cells cs t fz) (hb : w0.heap.size ≤ k0) (h1 : k0 ≠ b1) (h2 : k0 ≠ b2) (hg : W.grownBy W3 (some k0)) : CS w0 g b1 b2 p vs v st A c W3 := by
  refine ⟨h.k.moved ho hno hb hg, h.m.move (hg.block _ h.m.lt (by simpa using h2.symm)), h.e.move (hg.block _ h.e.lt (by simpa using h1.symm)), blk_grown h.pb hg ?_⟩
  intro e
  have e1 : p = k0 := by simpa using e
  rw [← e1, h.pb] at ho
  exact hno _ _ _ (Option.some.inj ho).symm
theorem CS.grown0 {w0 g b1 b2 p vs v st A c W W3} (h : CS w0 g b1 b2 p vs v st A c W) (hg : W.grownBy W3 none) : CS w0 g b1 b2 p vs v st A c W3 := h.below ((Below.refl W.heap.size W).grown hg (Nat.le_refl _) (by simp))
/-- Where the third loop stands. -/
structure L3 (w0 : World) (g b1 b2 p : Nat) (l : List S78) (es : List Int) (vs : List Value) (R : KS × List (ByteArray × Int)) (ba i : Nat) (v : Value) (A : Option Addr) (c : Nat) (st : KS) (ad : List (ByteArray × Int)) (n : Nat) (D : DataW Unit) (W : World) : Prop where
  s : CS w0 g b1 b2 p vs v st A c W
  eq : defS (l.drop i) (es.drop (prL (l.take i))) st ad = R
  lc : st.calls.length + nL (l.drop i) ≤ 2 * nL l
  len : st.code.length + 2 * nL (l.drop i) ≤ 4 * nL l + 1
  ma : MpA W ba ad n D
  adl : ad.length ≤ i
  abd : ∀ q ∈ ad, 0 ≤ q.2 ∧ q.2 ≤ 1000000
theorem L3.same {w0 g b1 b2 p l es vs R ba i v A c st ad n D W W2} (h : L3 w0 g b1 b2 p l es vs R ba i v A c st ad n D W) (hi : i < l.length) (h6 : l[i].f0 ≠ 6) (hs : CS w0 g b1 b2 p vs v st A c W2) (hm : MpA W2 ba ad n D) : L3 w0 g b1 b2 p l es vs R ba (i + 1) v A c st ad n D W2 := by
  have hd : l.drop i = l[i] :: l.drop (i + 1) := List.drop_eq_getElem_cons hi
  have he := h.eq
  have h1 := h.lc
  have h2 := h.len
  have h3 := h.adl
  rw [hd, defS, if_neg h6, List.drop_drop, ← prL_take_succ l i hi] at he
  rw [hd, nL_cons] at h1 h2
  exact ⟨hs, he, by omega, by omega, hm, by omega, h.abd⟩
theorem L3.next {w0 g b1 b2 p l es vs R ba i v A c st ad n D W W2 v2 A2 c2 n2 D2} (h : L3 w0 g b1 b2 p l es vs R ba i v A c st ad n D W) (hi : i < l.length) (hpr : prL l ≤ es.length) (hn : nL l ≤ 100000) (h6 : l[i].f0 = 6)
    (hs : CS w0 g b1 b2 p vs v2 ((gL l[i].f6 ⟨st.code, esI l es i, st.calls⟩).emit ⟨7, e0, e0, false, 0, 0⟩) A2 c2 W2) (hm : MpA W2 ba (ad ++ [(l[i].f2, (st.code.length : Int))]) n2 D2) :
    L3 w0 g b1 b2 p l es vs R ba (i + 1) v2 A2 c2 ((gL l[i].f6 ⟨st.code, esI l es i, st.calls⟩).emit ⟨7, e0, e0, false, 0, 0⟩) (ad ++ [(l[i].f2, (st.code.length : Int))]) n2 D2 W2 := by
  have hd : l.drop i = l[i] :: l.drop (i + 1) := List.drop_eq_getElem_cons hi
  have he := h.eq
  have h1 := h.lc
  have h2 := h.len
  have h7 := h.adl
  rw [hd, defS, if_pos h6, List.drop_drop, ← prL_take_succ l i hi, ← (esI_len hi hpr).1] at he
  rw [hd, nL_cons, nN_eq] at h1 h2
  have h3 := gL_len l[i].f6 ⟨st.code, esI l es i, st.calls⟩
  have h4 := gL_calls_len l[i].f6 ⟨st.code, esI l es i, st.calls⟩
  dsimp only at h3 h4
  refine ⟨hs, he, ?_, ?_, hm, ?_, ?_⟩
  · simp only [KS.emit]; omega
  · simp only [KS.emit, List.length_append, List.length_singleton]; omega
  · rw [List.length_append, List.length_singleton]; omega
  · intro q hq
    rcases List.mem_append.1 hq with hq | hq
    · exact h.abd q hq
    · rw [List.mem_singleton] at hq
      subst hq
      dsimp only
      omega
/-- Which calls are patched, where these are still to come. -/
def doneP (D : DataW Unit) (left : Lit → Bool) (j : Nat) : Bool := Go.Maps.has D (.int .i64 (j : Int)) && !left (.int .i64 (j : Int))
/-- Where the last loop stands. -/
structure L4 (w0 : World) (g b1 b2 p ba rb : Nat) (st : KS) (ad : List (ByteArray × Int)) (na : Nat) (Da : DataW Unit) (v : Value) (A : Option Addr) (c : Nat) (left : Lit → Bool) (cnt : Nat) (W : World) : Prop where
  k : KIn w0 g b1 b2 v (patW st.code st.calls ad (doneP (mpD st.calls) left)) A c st.left W
  rg : W.ranges Tryd.prog 3 (plainElem Tryd.prog 9) b2 rb st.calls.length (mpD st.calls) left cnt
  sub : ∀ kl, left kl = true → Go.Maps.has (mpD st.calls) kl = true
  ma : MpA W ba ad na Da
  pb : W.heap[p]? = some (.cells #[.pointer (some ⟨g, 0, none⟩)] 118 (0, 0))
theorem toList_data_inj {a b : ByteArray} (h : a.data.toList = b.data.toList) : a = b := by
  obtain ⟨⟨a⟩⟩ := a; obtain ⟨⟨b⟩⟩ := b
  simp at h; rw [h]
set_option maxRecDepth 100000 in
theorem plain9_inv {v : Value} {y : DataW Unit × List MemPlace} (h : plainElem Tryd.prog 9 v = some y) : ∃ c, v = .string c ∧ y = (.lit (.string c.data.toList), []) := by
  unfold plainElem at h
  rw [Tryd.underlying9] at h
  cases v <;> simp at h
  exact ⟨_, rfl, h.2.symm⟩
theorem L4.came {w0 g b1 b2 p ba rb st ad na Da v A c left cnt W} (h : L4 w0 g b1 b2 p ba rb st ad na Da v A c left cnt W) (hk : KOk2 st) {x : Int} {s : ByteArray} (hl : left (.int .i64 x) = true) (hat : ∀ zd, (mpD st.calls).atKey (.int .i64 x) zd = .lit (.string s.data.toList)) :
    ∃ j : Nat, x = (j : Int) ∧ nmA st.calls j = some s ∧ j < st.code.length ∧ s.size ≤ 65536 := by
  obtain ⟨h1, h2⟩ := mpD_at st.calls x
  have h3 := h.sub _ hl
  rw [h1] at h3
  obtain ⟨t, ht⟩ := Option.isSome_iff_exists.1 h3
  have h4 := h2 t ht (.lit (.bool false))
  rw [hat] at h4
  have h5 : s = t := toList_data_inj (by simpa using h4)
  subst h5
  obtain ⟨j, e1, e2, e3⟩ := hk _ (nmA_mem ht)
  dsimp only at e1 e3
  subst e1
  exact ⟨j, rfl, ht, e2, e3⟩
theorem patW_step {st : KS} {ad : List (ByteArray × Int)} {left : Lit → Bool} {j : Nat} {s : ByteArray} (hs : nmA st.calls j = some s) :
    setTo (patW st.code st.calls ad (doneP (mpD st.calls) left)) j (adOf ad s) = patW st.code st.calls ad (doneP (mpD st.calls) fun z => left z && !z.sameKey (.int .i64 (j : Int))) := by
  rw [patW_set hs]
  refine patW_congr fun i => ?_
  unfold doneP
  by_cases e : i = j
  · subst e
    rw [(mpD_at st.calls i).1, hs]
    simp [Lit.sameKey]
  · have e' : ¬ (i : Int) = j := by omega
    simp [Lit.sameKey, e, e']
theorem patW_end {st : KS} {ad : List (ByteArray × Int)} {left : Lit → Bool} (h : ∀ kl, left kl = false) : patW st.code st.calls ad (doneP (mpD st.calls) left) = patW st.code st.calls ad fun i => (nmA st.calls i).isSome :=
  patW_congr fun i => by unfold doneP; rw [(mpD_at st.calls i).1, h]; simp
theorem patW_start {st : KS} {ad : List (ByteArray × Int)} : patW st.code st.calls ad (doneP (mpD st.calls) (Go.Maps.has (mpD st.calls))) = st.code := by
  refine (patW_congr (Q := fun _ => false) fun i => ?_).trans (patW_none _ _ _)
  unfold doneP
  cases Go.Maps.has (mpD st.calls) (.int .i64 (i : Int)) <;> rfl
theorem L4.moved {w0 g b1 b2 p ba rb st ad na Da v A c left cnt left2 cnt2 W W2} (h : L4 w0 g b1 b2 p ba rb st ad na Da v A c left cnt W) (hr0 : w0.heap.size ≤ rb) (hrb : rb ≠ ba) (hg : W.grownBy W2 (some rb)) (hrg : W2.ranges Tryd.prog 3 (plainElem Tryd.prog 9) b2 rb st.calls.length (mpD st.calls) left2 cnt2) :
    KIn w0 g b1 b2 v (patW st.code st.calls ad (doneP (mpD st.calls) left)) A c st.left W2 ∧ MpA W2 ba ad na Da ∧ W2.heap[p]? = some (.cells #[.pointer (some ⟨g, 0, none⟩)] 118 (0, 0)) := by
  obtain ⟨_, _, _, _, _, _, _, _, _, hit, _⟩ := h.rg
  refine ⟨h.k.moved hit (fun _ _ _ e => by cases e) hr0 hg, h.ma.move (hg.block _ h.ma.lt (by simpa using hrb.symm)), blk_grown h.pb hg ?_⟩
  intro e
  have e1 : p = rb := by simpa using e
  rw [← e1, h.pb] at hit
  cases hit
set_option maxRecDepth 100000 in
theorem inf3 : ∃ i, Tryd.prog.info? 3 = some i ∧ i.size = 1 := ⟨_, rfl, rfl⟩
theorem mapW_cell {w : World} {b : Nat} {es : Array MapEntry} {n : Nat} {a : Addr} (h : a.block ≠ b) : (mapW w b es n).cell? a = w.cell? a := by
  have e : (mapW w b es n).heap[a.block]? = w.heap[a.block]? := by
    have h' : b ≠ a.block := fun e => h e.symm
    simp [mapW, h']
  unfold World.cell?
  rw [e]
theorem start_cs (w0 : World) : CS w0 (w0.heap.size + 1 + 1) w0.heap.size (w0.heap.size + 1) (w0.heap.size + 1 + 1 + 1) [] (.slice none 0 0) ⟨[], [], []⟩ none 0
    ((((w0.alloc (.map #[] 0)).alloc (.map #[] 0)).alloc (.cells #[.slice none 0 0, .map (some w0.heap.size), .slice none 0 0, .map (some (w0.heap.size + 1))] 122)).alloc (.cells #[.pointer (some ⟨w0.heap.size + 1 + 1, 0, none⟩)] 118)) := by
  have e1 : (w0.alloc (.map #[] 0)).heap.size = w0.heap.size + 1 := World.size_alloc _ _
  have e2 : ((w0.alloc (.map #[] 0)).alloc (.map #[] 0)).heap.size = w0.heap.size + 1 + 1 := by rw [World.size_alloc, e1]
  have e3 : (((w0.alloc (.map #[] 0)).alloc (.map #[] 0)).alloc (.cells #[.slice none 0 0, .map (some w0.heap.size), .slice none 0 0, .map (some (w0.heap.size + 1))] 122)).heap.size = w0.heap.size + 1 + 1 + 1 := by rw [World.size_alloc, e2]
  refine ⟨⟨?_, Kd.R_nil _ _ _ _ _, ?_, Nat.le_refl _, ?_, by omega⟩, ?_, ?_, ?_⟩
  · have := blk_new ((w0.alloc (.map #[] 0)).alloc (.map #[] 0)) (.cells #[.slice none 0 0, .map (some w0.heap.size), .slice none 0 0, .map (some (w0.heap.size + 1))] 122)
    rw [e2] at this
    exact blk_alloc this _
  · exact ⟨rfl, by simp, fun h => absurd h (by simp)⟩
  · exact below_alloc (below_alloc (below_alloc (below_alloc (Below.refl _ _) _) _) _) _
  · have : MpC ((w0.alloc (.map #[] 0)).alloc (.map #[] 0)) (w0.heap.size + 1) [] := by
      have := World.ownsMap_made (H := Unit) (w0.alloc (.map #[] 0)) Tryd.prog 3 (plainElem Tryd.prog 9)
      rw [e1] at this
      exact this
    exact (this.alloc _).alloc _
  · exact (((EscB.start w0).alloc _).alloc _).alloc _
  · have := blk_new (((w0.alloc (.map #[] 0)).alloc (.map #[] 0)).alloc (.cells #[.slice none 0 0, .map (some w0.heap.size), .slice none 0 0, .map (some (w0.heap.size + 1))] 122)) (.cells #[.pointer (some ⟨w0.heap.size + 1 + 1, 0, none⟩)] 118)
    rw [e3] at this
    exact this
set_option maxHeartbeats 1000000 in
set_option maxRecDepth 100000 in
theorem code_any (l : List S78) (A : Option Addr) (c : Nat) (w : World) (hC : Kd.C k78 w A l.length l) (hc : l.length ≤ c) (hsm : smL l) (hlen : nL l ≤ 100000) (hpr : (inferF l).2.2 = 0 → prL l ≤ (inferF l).1.length) :
    Calls Tryd.prog 35 #[.slice A l.length c] w fun e w' => ∃ v, e = .returned (.tuple #[v, .int .i64 (codeF l).2.1, .int .i64 (codeF l).2.2]) ∧ Kd.R k40 40 w' w.heap.size (fun _ => True) v (codeF l).1 ∧ Below w.heap.size w w' := by
  obtain ⟨r, hr⟩ : ∃ r, r = codeF l := ⟨_, rfl⟩
  rw [← hr]
  unfold codeF at hr
  have hll : l.length ≤ 100000 := by have := nL_len l; omega
  have hchk := Aside0.mk (check_any l A c w hC hc hsm (by omega))
  have hinf := Aside0.mk (fun W (hB : Below w.heap.size w W) => infer_any l A c W (Kd.C_below hC hB) hc hsm (by omega))
  replace hr := Aside0.mk hr
  replace hC := Aside0.mk hC
  replace hsm := Aside0.mk hsm
  generalize hck : checkF l = ck at *
  obtain ⟨ca, ce⟩ := ck
  generalize hif : inferF l = nf at *
  obtain ⟨es, ia, ie⟩ := nf
  replace hck := Aside0.mk hck
  replace hif := Aside0.mk hif
  dsimp only at hpr
  replace hpr := Aside0.mk hpr
  by_cases hE : ce = 0
  case neg =>
    have hE' : (ce != 0) = true := by simp [hE]
    have hr2 := hr.out
    rw [if_neg hE] at hr2
    replace hr2 := Aside0.mk hr2
    replace hE := Aside0.mk hE
    clear hr
    go_enter Tryd.func35, Tryd.ntmps35
    go_wp2_with (go_at_call 16; refine hchk.out.mono ?_; rintro e w1 ⟨rfl, HB⟩; replace HB := Aside0.mk HB)
    go_ret3
    rw [hr2.out]
    exact ⟨_, rfl, Kd.R_nil _ _ _ _ _, HB.out⟩
  by_cases hE2 : ie = 0
  case neg =>
    have hE' : (ce != 0) = false := by simp [hE]
    have hE2' : (ie != 0) = true := by simp [hE2]
    have hr2 := hr.out
    rw [if_pos hE, if_neg hE2] at hr2
    replace hr2 := Aside0.mk hr2
    replace hE := Aside0.mk hE
    replace hE2 := Aside0.mk hE2
    clear hr
    go_enter Tryd.func35, Tryd.ntmps35
    go_wp2_with (first | (go_at_call 16; refine hchk.out.mono ?_; rintro e w1 ⟨rfl, HB⟩; replace HB := Aside0.mk HB) | (go_at_call 17; refine (hinf.out _ HB.out).mono ?_; rintro e w2 ⟨v2, rfl, HR, HB2⟩; replace HB2 := Aside0.mk (below_step HB.out HB2); clear HB HR))
    go_ret3
    rw [hr2.out]
    exact ⟨_, rfl, Kd.R_nil _ _ _ _ _, HB2.out⟩
  have hE' : (ce != 0) = false := by simp [hE]
  have hE2' : (ie != 0) = false := by simp [hE2]
  have hr2 := hr.out
  rw [if_pos hE, if_pos hE2] at hr2
  have hpr2 := hpr.out hE2
  replace hr2 := Aside0.mk hr2
  clear hr hpr
  replace hE := Aside0.mk hE
  replace hE2 := Aside0.mk hE2
  have hmm := @run_makeMap Tryd.prog
  go_enter Tryd.func35, Tryd.ntmps35
  go_wp2_with (first | (go_at_call 16; refine hchk.out.mono ?_; rintro e w1 ⟨rfl, HB⟩; replace HB := Aside0.mk HB) | (go_at_call 17; refine (hinf.out _ HB.out).mono ?_; rintro e w0 ⟨v2, rfl, HR, HB2⟩; obtain ⟨Ae, cE, rfl⟩ := Kd.R_slice HR; have hEs := Kd.R_reads' HR; have hCe := Aside0.mk hEs.2.2; have hle := hEs.2.1; replace HB2 := Aside0.mk (below_step HB.out HB2); clear HB HR hEs))
  have HS := start_cs w0
  generalize ((((w0.alloc (.map #[] 0)).alloc (.map #[] 0)).alloc (.cells #[.slice none 0 0, .map (some w0.heap.size), .slice none 0 0, .map (some (w0.heap.size + 1))] 122)).alloc (.cells #[.pointer (some ⟨w0.heap.size + 1 + 1, 0, none⟩)] 118)) = W0 at HS ⊢
  obtain ⟨b1, hb1⟩ : ∃ b1, b1 = w0.heap.size := ⟨_, rfl⟩
  generalize hp : w0.heap.size + 1 + 1 + 1 = p at HS ⊢
  generalize hg : w0.heap.size + 1 + 1 = g at HS ⊢
  generalize hb2 : w0.heap.size + 1 = b2 at HS ⊢
  rw [← hb1] at HS
  have hne : b1 ≠ b2 := by omega
  have hb1' : w0.heap.size ≤ b1 := by omega
  have hb2' : w0.heap.size ≤ b2 := by omega
  have hCw := Aside0.mk (Kd.C_below hC.out HB2.out)
  have H1 : L1 w0 g b1 b2 p l es 0 [] Ae cE W0 := ⟨HS, rfl, fun i h => absurd h (Nat.not_lt_zero _), by simpa [prL] using hCe.out, by simpa [prL] using hle⟩
  replace H1 := Aside0.mk H1
  clear HS hmm hchk hinf
  replace hp := Aside0.mk hp
  replace hg := Aside0.mk hg
  replace hb1 := Aside0.mk hb1
  replace hb2 := Aside0.mk hb2
  go_loopg [7, 47] l.length (fun kq v7 v47 wr => ∃ (i : Nat) (vs : List Value) (Ar : Option Addr) (cr : Nat), kq + i = l.length ∧ v47 = .int .i64 i ∧ v7 = .slice Ar (es.drop (prL (l.take i))).length cr ∧ L1 w0 g b1 b2 p l es i vs Ar cr wr)
  case atStart => exact ⟨0, [], Ae, cE, rfl, rfl, by simp [prL], H1.out⟩
  case round =>
    clear H1
    obtain ⟨i, vs, Ar, cr, hki, rfl, rfl, HR⟩ := hrel
    by_cases hlt2 : i < l.length
    · have hl : decide ((i : Int) < (l.length : Int)) = true := decide_eq_true (by omega)
      obtain ⟨ad, A6, c6, A7, c7, hA, x0, x1, x2, x3, x4, x5, x6, x7, l6, g6, l7, g7⟩ := at_T78 hCw.out (i : Int) (by omega) (by omega)
      have hrd : rd_T78 l (i : Int) = l[i] := by unfold rd_T78; simp [List.getD, hlt2]
      simp only [Int.toNat_natCast] at x0 x1 x2 x3 x4 x5 x6 x7
      rw [hrd] at x0 x1 x2 x3 x4 x5 x6 x7 l6 g6 l7 g7
      have hstep := Aside0.mk (fun W (h : L1 w0 g b1 b2 p l es i vs Ar cr W) => h.step hlt2 hpr2 hne hb1')
      have htl := prL_take_le l (i + 1)
      have hts := prL_take_succ l i hlt2
      have hnx := getN l i hlt2
      subst hA
      have up : ∀ {a : Addr} {u : Value}, w0.cell? a = some u → wr.cell? a = some u := fun h => (HR.s.k.bel.cell (World.block_lt_of_cell? _ _ h)).trans h
      have hab := World.block_lt_of_cell? _ _ (up x0)
      replace x0 := up x0
      replace x1 := up x1
      replace x2 := up x2
      replace x3 := up x3
      replace x4 := up x4
      replace x5 := up x5
      replace x6 := up x6
      replace x7 := up x7
      clear up hrd
      generalize l[i] = x at *
      have hprx := Aside0.mk (fun W hb (hB : Below w0.heap.size w0 W) => prints1 (x := x) (by omega) (B := wr.heap.size + 1) (A6 := A6) (A7 := A7) (c6 := c6) (c7 := c7) W hb l6 (Kd.C_below g6 hB) l7 (Kd.C_below g7 hB))
      have hk0 : (0 : Int) ≤ (prN x : Int) := Int.natCast_nonneg _
      have hpe := hpr2
      have hkl : prN x ≤ (es.drop (prL (l.take i))).length := by rw [List.length_drop]; omega
      have hk1 : (prN x : Int) ≤ ((es.drop (prL (l.take i))).length : Int) := by omega
      have hcr := HR.le
      obtain ⟨i3, hi3, hs3⟩ := inf3
      have hcut1 := cut_to (P := Tryd.prog) 35 3 .i64 Tryd.underlying35 hi3 Ar (es.drop (prL (l.take i))).length cr (prN x) hk0 hk1 hcr
      have hcut2 := cut_from (P := Tryd.prog) 35 3 .i64 Tryd.underlying35 hi3 1 hs3 Ar (es.drop (prL (l.take i))).length cr (prN x) hk0 hk1
      simp only [Int.toNat_natCast] at hcut1 hcut2
      replace HR := Aside0.mk HR
      replace hcr := Aside0.mk hcr
      replace hkl := Aside0.mk hkl
      replace hpe := Aside0.mk hpe
      have hnl : (es.drop (prL (l.take (i + 1)))).length = (es.drop (prL (l.take i))).length - prN x := by rw [List.length_drop, List.length_drop]; omega
      generalize (es.drop (prL (l.take i))).length = rl at *
      replace hnl := Aside0.mk hnl
      clear l6 g6 l7 g7 hi3 hs3
      go_wp2_with (go_at_call 56; refine (hprx.out _ (blk_n1 _ _ _) (below_alloc (below_alloc HR.out.s.k.bel _) _)).mono ?_; rintro e w3 ⟨rfl, HB3⟩; have H3 := Aside0.mk (show L1 w0 g b1 b2 p l es i vs Ar cr w3 from ⟨((HR.out.s.alloc _).alloc _).below HB3, HR.out.len, HR.out.vs, HR.out.rest, HR.out.le⟩); clear HB3 HR hprx x0 x1 x2 x3 x4 x5 x6 x7)
      have p0 : w3.cell? ⟨p, 0, none⟩ = some (.pointer (some ⟨g, 0, none⟩)) := blk_cell H3.out.s.pb 0
      have g1 : w3.cell? ⟨g, 1, none⟩ = some (.map (some b1)) := blk_cell H3.out.s.k.blk 1
      have hlp := blk_lt H3.out.s.pb
      have hlg := blk_lt H3.out.s.k.blk
      have hgb : g ≠ b1 := (H3.out.s.e.ne_g H3.out.s.k).symm
      have hpb : p ≠ b1 := by
        intro e
        have h1 : w3.heap[b1]? = _ := H3.out.s.e
        rw [← e, H3.out.s.pb] at h1
        cases h1
      have hent := H3.out.s.e.drew.entry
      have hsto := H3.out.s.e.drew.store (.slice Ar (prN x) cr)
      have H4 := hstep.out _ (show L1 w0 g b1 b2 p l es i vs Ar cr w3.drew from ⟨H3.out.s.drew, H3.out.len, H3.out.vs, H3.out.rest, H3.out.le⟩)
      rw [H3.out.len] at hent hsto H4
      have p5 := fun es n => (mapW_cell (es := es) (n := n) (w := w3.drew) hpb).trans p0
      have g5 := fun es n => (mapW_cell (es := es) (n := n) (w := w3.drew) hgb).trans g1
      generalize hW5 : mapW w3.drew b1 ((escL vs).toArray.push { key := .int .i64 i, val := .slice none 0 0, born := i }) (i + 1) = W5 at hent hsto
      generalize hW6 : mapW w3.drew b1 (escL (vs ++ [.slice Ar (prN x) cr])).toArray (i + 1) = W6 at hsto H4
      have p6 : W6.cell? ⟨p, 0, none⟩ = some (.pointer (some ⟨g, 0, none⟩)) := by rw [← hW6]; exact p5 _ _
      have g6 : W6.cell? ⟨g, 1, none⟩ = some (.map (some b1)) := by rw [← hW6]; exact g5 _ _
      replace p5 : W5.cell? ⟨p, 0, none⟩ = some (.pointer (some ⟨g, 0, none⟩)) := by rw [← hW5]; exact p5 _ _
      replace g5 : W5.cell? ⟨g, 1, none⟩ = some (.map (some b1)) := by rw [← hW5]; exact g5 _ _
      generalize (if cr = prN x then Ar else Ar.map fun a => a.add (prN x * 1)) = Az at hcut2 H4
      replace H4 := Aside0.mk H4
      clear hstep hcr hkl hpe hW5 hW6
      go_region_held3 (fun w' => w'.cell? ⟨p, 0, none⟩ = some (.pointer (some ⟨g, 0, none⟩)) ∧ w'.cell? ⟨g, 1, none⟩ = some (.map (some b1))) (first | exact ⟨p0, g1⟩ | exact ⟨p5, g5⟩ | exact ⟨p6, g6⟩ | go_keep) (fail)
      go_wp2_with fail
      go_roundg (gk - 1)
      case measure => omega
      case rel => exact ⟨i + 1, _, Az, cr - prN x, by omega, by simp, by rw [hnl.out], H4.out⟩
    · have hl : decide ((i : Int) < (l.length : Int)) = false := decide_eq_false (by omega)
      have hil : i = l.length := by have := HR.len; omega
      subst hil
      have HS := HR.s
      have HV := HR.vs
      have HVl := HR.len
      clear HR hki
      have H2 : L2 w0 g b1 b2 p l es vs (topS l es ⟨[], [], []⟩) 0 (.slice none 0 0) none 0 ⟨[], [], []⟩ wr := ⟨HS, by simp [prL], by simp, by simp⟩
      obtain ⟨R, hR⟩ : ∃ R, R = topS l es ⟨[], [], []⟩ := ⟨_, rfl⟩
      rw [← hR] at H2
      replace hR := Aside0.mk hR
      replace H2 := Aside0.mk H2
      replace HV := Aside0.mk HV
      clear HS hCe hle
      generalize (List.drop (prL (List.take l.length l)) es).length = rl0
      go_wp2_with fail
      go_loopg [72] l.length (fun kq v72 wr => ∃ (i : Nat) (v' : Value) (A' : Option Addr) (c' : Nat) (st : KS), kq + i = l.length ∧ v72 = .int .i64 i ∧ L2 w0 g b1 b2 p l es vs R i v' A' c' st wr)
      case atStart => exact ⟨0, _, _, _, _, rfl, rfl, H2.out⟩
      case round =>
        clear H2
        obtain ⟨i, v1, A1, c1, st, hki, rfl, HR⟩ := hrel
        by_cases hlt2 : i < l.length
        · have hl : decide ((i : Int) < (l.length : Int)) = true := decide_eq_true (by omega)
          obtain ⟨ad, A6, c6, A7, c7, hA, x0, x1, x2, x3, x4, x5, x6, x7, l6, g6, l7, g7⟩ := at_T78 hCw.out (i : Int) (by omega) (by omega)
          have hrd : rd_T78 l (i : Int) = l[i] := by unfold rd_T78; simp [List.getD, hlt2]
          simp only [Int.toNat_natCast] at x0 x1 x2 x3 x4 x5 x6 x7
          rw [hrd] at x0 x1 x2 x3 x4 x5 x6 x7 l6 g6 l7 g7
          have hnx := getN l i hlt2
          have hsx := Aside0.mk (by have := sm_drop l i hsm.out; rw [List.drop_eq_getElem_cons hlt2] at this; exact this.1 : smN l[i])
          have hd : l.drop i = l[i] :: l.drop (i + 1) := List.drop_eq_getElem_cons hlt2
          have hei := esI_len hlt2 hpr2
          obtain ⟨Ae, ce2, hv1, hv2, hv3⟩ := HV.out i (by omega)
          have hb1c := HR.lc
          have hb2c := HR.len
          rw [hd, nL_cons] at hb1c hb2c
          have hsame := Aside0.mk (fun W (h6 : l[i].f0 = 6) (hs : CS w0 g b1 b2 p vs v1 st A1 c1 W) => HR.same hlt2 h6 hs)
          have hnext := Aside0.mk (fun W v2 A2 c2 (h6 : l[i].f0 ≠ 6) (hs : CS w0 g b1 b2 p vs v2 (gN l[i] ⟨st.code, esI l es i, st.calls⟩) A2 c2 W) => HR.next hlt2 hpr2 h6 hs)
          have hep := eN_pr l[i]
          subst hA
          have up : ∀ {a : Addr} {u : Value}, w0.cell? a = some u → wr.cell? a = some u := fun h => (HR.s.k.bel.cell (World.block_lt_of_cell? _ _ h)).trans h
          have hab := World.block_lt_of_cell? _ _ (up x0)
          replace x0 := up x0
          replace x1 := up x1
          replace x2 := up x2
          replace x3 := up x3
          replace x4 := up x4
          replace x5 := up x5
          replace x6 := up x6
          replace x7 := up x7
          clear up hrd
          generalize l[i] = x at *
          generalize esI l es i = ei at *
          obtain ⟨hei1, hei2⟩ := hei
          replace hei1 := Aside0.mk hei1
          have htop := Aside0.mk (fun W (h : CS w0 g b1 b2 p vs v1 st A1 c1 W) hb => top_main x h hne i ei Ae ce2 hv1 hv2 hv3 (wr.heap.size + 1) A6 A7 c6 c7 hb g6 l6 g7 l7 hb2' hsx.out (by omega) (by omega) (by omega))
          have HS := Aside0.mk HR.s
          clear HR l6 g6 l7 g7 hv1 hv2 hv3 hsx hd hep hb1c hb2c hnx hei1 hei2
          by_cases k6 : x.f0 = 6
          · have k6' : (x.f0 != 6) = false := by simp [k6]
            have h5 := Aside0.mk (hsame.out _ k6 (HS.out.alloc (.cells (nodC x A6 A7 c6 c7) 78)))
            replace k6 := Aside0.mk k6
            clear hsame hnext htop HS
            go_wp2_with fail
            go_roundg (gk - 1)
            case measure => omega
            case rel => exact ⟨i + 1, _, _, _, _, by omega, by simp, h5.out⟩
          · have k6' : (x.f0 != 6) = true := by simp [k6]
            replace k6 := Aside0.mk k6
            go_wp2_with (go_at_call 57; refine (htop.out _ ((HS.out.alloc _).alloc _) (blk_n1 _ _ _)).mono ?_; rintro e w3 ⟨rfl, ⟨v2, A2, c2, h2⟩, hK⟩; replace h2 := Aside0.mk (hnext.out _ _ _ _ k6.out h2); clear hK hsame hnext htop HS x0 x1 x2 x3 x4 x5 x6 x7)
            go_roundg (gk - 1)
            case measure => omega
            case rel => exact ⟨i + 1, _, _, _, _, by omega, by simp, h2.out⟩
        · have hl : decide ((i : Int) < (l.length : Int)) = false := decide_eq_false (by omega)
          have HS := HR.s
          have HE := HR.eq
          have hb1c := HR.lc
          have hb2c := HR.len
          rw [List.drop_eq_nil_of_le (by omega)] at HE hb1c hb2c
          rw [topS] at HE
          subst HE
          have hem := Aside0.mk (emit_cs HS hne ⟨9, ⟨#[]⟩, ⟨#[]⟩, false, 0, 0⟩ (by simp only [nL] at hb2c; omega))
          have hp0 := Aside0.mk HS.pb
          have p0 : wr.cell? ⟨p, 0, none⟩ = some (.pointer (some ⟨g, 0, none⟩)) := blk_cell HS.pb 0
          replace HS := Aside0.mk HS
          have hc9 : (st.emit ⟨9, ⟨#[]⟩, ⟨#[]⟩, false, 0, 0⟩).calls.length + nL l ≤ 2 * nL l := by simp only [KS.emit, nL] at hb1c ⊢; omega
          have hk9 : (st.emit ⟨9, ⟨#[]⟩, ⟨#[]⟩, false, 0, 0⟩).code.length + 2 * nL l ≤ 4 * nL l + 1 := by simp only [KS.emit, nL, List.length_append, List.length_singleton] at hb2c ⊢; omega
          have h0l : st.code.length ≤ 1000000 := by omega
          have hmm := @run_makeMap Tryd.prog
          go_wp2_with (go_at_call 59; refine hem.out.mono ?_; rintro e w9 ⟨rfl, ⟨v9, A9, c9, h9⟩, hK⟩; replace h9 := Aside0.mk h9; clear hK hem HR HS hp0 p0)
          have hba0 : w0.heap.size ≤ w9.heap.size := h9.out.k.bel.size
          have hba1 : w9.heap.size ≠ b1 := fun e => by have := h9.out.e.lt; omega
          have hba2 : w9.heap.size ≠ b2 := fun e => by have := h9.out.m.lt; omega
          obtain ⟨R3, hR3⟩ : ∃ R3, R3 = defS l es (st.emit ⟨9, ⟨#[]⟩, ⟨#[]⟩, false, 0, 0⟩) [] := ⟨_, rfl⟩
          have hfin : r = (patW R3.1.code R3.1.calls R3.2 (fun i => (nmA R3.1.calls i).isSome), 0, 0) := by rw [hr2.out, hR3, hR.out]; rfl
          have hkok : KOk2 R3.1 := by rw [hR3, hR.out]; exact code_kok es hsm.out
          replace hfin := Aside0.mk hfin
          replace hkok := Aside0.mk hkok
          have H3 : L3 w0 g b1 b2 p l es vs R3 w9.heap.size 0 v9 A9 c9 (st.emit ⟨9, ⟨#[]⟩, ⟨#[]⟩, false, 0, 0⟩) [] 0 (.map []) (w9.alloc (.map #[] 0)) := ⟨h9.out.alloc _, by simp [prL, hR3], hc9, hk9, MpA.start _, Nat.zero_le _, fun q hq => by cases hq⟩
          generalize w9.alloc (.map #[] 0) = w10 at H3 ⊢
          generalize w9.heap.size = ba at *
          generalize st.emit ⟨9, ⟨#[]⟩, ⟨#[]⟩, false, 0, 0⟩ = st9 at *
          replace hR3 := Aside0.mk hR3
          replace H3 := Aside0.mk H3
          clear h9 hmm hb1c hb2c hlt2 hl hki hc9 hk9 h0l
          go_loopg [92] l.length (fun kq v92 wr => ∃ (i : Nat) (v' : Value) (A' : Option Addr) (c' : Nat) (st : KS) (ad : List (ByteArray × Int)) (n : Nat) (D : DataW Unit), kq + i = l.length ∧ v92 = .int .i64 i ∧ L3 w0 g b1 b2 p l es vs R3 ba i v' A' c' st ad n D wr)
          case atStart => exact ⟨0, _, _, _, _, _, _, _, rfl, rfl, H3.out⟩
          case round =>
            clear H3
            obtain ⟨i, v1, A1, c1, st1, ad, n, D, hki, rfl, HR⟩ := hrel
            by_cases hlt2 : i < l.length
            · have hl : decide ((i : Int) < (l.length : Int)) = true := decide_eq_true (by omega)
              obtain ⟨adr, A6, c6, A7, c7, hA, x0, x1, x2, x3, x4, x5, x6, x7, l6, g6, l7, g7⟩ := at_T78 hCw.out (i : Int) (by omega) (by omega)
              have hrd : rd_T78 l (i : Int) = l[i] := by unfold rd_T78; simp [List.getD, hlt2]
              simp only [Int.toNat_natCast] at x0 x1 x2 x3 x4 x5 x6 x7
              rw [hrd] at x0 x1 x2 x3 x4 x5 x6 x7 l6 g6 l7 g7
              have hnx := getN l i hlt2
              have hsx := Aside0.mk (by have := sm_drop l i hsm.out; rw [List.drop_eq_getElem_cons hlt2] at this; exact this.1 : smN l[i])
              have hd : l.drop i = l[i] :: l.drop (i + 1) := List.drop_eq_getElem_cons hlt2
              have hei := esI_len hlt2 hpr2
              obtain ⟨Ae2, ce2, hv1, hv2, hv3⟩ := HV.out i (by omega)
              have hb1c := HR.lc
              have hb2c := HR.len
              have hadl := HR.adl
              have hnle := HR.ma.le
              rw [hd, nL_cons, nN_eq] at hb1c hb2c
              have hsame := Aside0.mk (fun W (h6 : l[i].f0 ≠ 6) (hs : CS w0 g b1 b2 p vs v1 st1 A1 c1 W) hm => HR.same hlt2 h6 hs hm)
              have hnext := Aside0.mk (fun W v2 A2 c2 n2 D2 (h6 : l[i].f0 = 6) (hs : CS w0 g b1 b2 p vs v2 ((gL l[i].f6 ⟨st1.code, esI l es i, st1.calls⟩).emit ⟨7, e0, e0, false, 0, 0⟩) A2 c2 W) (hm : MpA W ba (ad ++ [(l[i].f2, (st1.code.length : Int))]) n2 D2) => HR.next hlt2 hpr2 hlen h6 hs hm)
              have hep : eL l[i].f6 ≤ prN l[i] := by have := eL_pr l[i].f6; rw [prN_eq]; omega
              subst hA
              have up : ∀ {a : Addr} {u : Value}, w0.cell? a = some u → wr.cell? a = some u := fun h => (HR.s.k.bel.cell (World.block_lt_of_cell? _ _ h)).trans h
              have hab := World.block_lt_of_cell? _ _ (up x0)
              replace x0 := up x0
              replace x1 := up x1
              replace x2 := up x2
              replace x3 := up x3
              replace x4 := up x4
              replace x5 := up x5
              replace x6 := up x6
              replace x7 := up x7
              clear up hrd
              generalize l[i] = x at *
              generalize esI l es i = ei at *
              obtain ⟨hei1, hei2⟩ := hei
              replace hei1 := Aside0.mk hei1
              have hsz : x.f2.size ≤ 65536 := by have := hsx.out; cases x; simp only [smN] at this; exact this.1
              have htop := Aside0.mk (fun W (h : CS w0 g b1 b2 p vs v1 st1 A1 c1 W) => top_def x.f6 h hne i ei Ae2 ce2 hv1 hv2 hv3 A6 c6 g6 l6 hb2' (by have := hsx.out; cases x; simp only [smN] at this; exact this.2.1) (by omega) (by omega) (by omega))
              have hgl := gL_len x.f6 ⟨st1.code, ei, st1.calls⟩
              dsimp only at hgl
              have hem := Aside0.mk (fun W v2 A2 c2 (h : CS w0 g b1 b2 p vs v2 (gL x.f6 ⟨st1.code, ei, st1.calls⟩) A2 c2 W) => emit_cs h hne ⟨7, ⟨#[]⟩, ⟨#[]⟩, false, 0, 0⟩ (by omega))
              have hcl : (st1.code.length : Int) ≤ 1000000000000 := by omega
              have hn0 : n < maxLen := by unfold maxLen; omega
              have HS := Aside0.mk HR.s
              have HM := Aside0.mk HR.ma
              clear HR l6 g6 l7 g7 hv1 hv2 hv3 hsx hd hep hb1c hb2c hnx hei1 hei2 hadl hnle hgl
              by_cases k6 : x.f0 = 6
              case neg =>
                have k6' : (x.f0 == 6) = false := by simp [k6]
                have h5 := Aside0.mk (hsame.out _ k6 (HS.out.alloc (.cells (nodC x A6 A7 c6 c7) 78)) (HM.out.alloc _))
                replace k6 := Aside0.mk k6
                clear hsame hnext htop HS HM hem
                go_wp2_with fail
                go_roundg (gk - 1)
                case measure => omega
                case rel => exact ⟨i + 1, _, _, _, _, _, _, _, by omega, by simp, h5.out⟩
              have k6' : (x.f0 == 6) = true := by simp [k6]
              obtain ⟨W1, e1⟩ : ∃ W1, W1 = wr.alloc (.cells #[.int .i64 x.f0, .int .i64 x.f1, .string x.f2, .string x.f3, .bool x.f4, .bool x.f5, .slice A6 x.f6.length c6, .slice A7 x.f7.length c7] 78) := ⟨_, rfl⟩
              have HS1 : CS w0 g b1 b2 p vs v1 st1 A1 c1 W1 := by rw [e1]; exact HS.out.alloc _
              have HM1 : MpA W1 ba ad n D := by rw [e1]; exact HM.out.alloc _
              have hbx : W1.heap[wr.heap.size]? = some (.cells (nodC x A6 A7 c6 c7) 78 (0, 0)) := by rw [e1]; exact blk_new _ _
              replace k6 := Aside0.mk k6
              clear HS HM hsame
              go_upto_region 27 with fail
              rw [← e1]
              clear e1
              obtain ⟨A0, c0, rfl⟩ := Kd.R_slice HS1.k.own
              have n2 : W1.cell? ⟨wr.heap.size, 2, none⟩ = some (.string x.f2) := blk_cell hbx 2
              have p0 : W1.cell? ⟨p, 0, none⟩ = some (.pointer (some ⟨g, 0, none⟩)) := blk_cell HS1.pb 0
              have g0 : W1.cell? ⟨g, 0, none⟩ = some (.slice A0 st1.code.length c0) := blk_cell HS1.k.blk 0
              have hkey : keyOf Tryd.prog 9 (.string x.f2) = some (kS x.f2) := Go.WideMaps.keyOf_string_mk Tryd.underlying9 (show x.f2.size ≤ maxLen by unfold maxLen; omega)
              obtain ⟨W2, hrun, hO2, hg2⟩ := HM1.drew.own.update law9 Tryd.underlying127 hn0 hkey (plainElem_int Tryd.underlying3 (wf64 (Int.natCast_nonneg st1.code.length) hcl))
              have hM2 := Aside0.mk (HM1.drew.put x.f2 _ hO2)
              obtain ⟨esm, clkm, hmb⟩ := HM1.at_blk
              have HS2 := Aside0.mk (HS1.drew.moved (k0 := ba) hmb (fun _ _ _ e => by cases e) hba0 hba1 hba2 hg2)
              have hbx2 : W2.heap[wr.heap.size]? = some (.cells (nodC x A6 A7 c6 c7) 78 (0, 0)) := blk_grown (w := W1.drew) hbx hg2 (fun e => by
                have e2 : wr.heap.size = ba := by simpa using e
                rw [← e2, hbx] at hmb
                cases hmb)
              have n6 : W2.cell? ⟨wr.heap.size, 6, none⟩ = some (.slice A6 x.f6.length c6) := blk_cell hbx2 6
              have q0 : W2.cell? ⟨p, 0, none⟩ = some (.pointer (some ⟨g, 0, none⟩)) := blk_cell HS2.out.pb 0
              replace hbx2 := Aside0.mk hbx2
              clear HS1 HM1 hbx hO2 hg2 hmb hkey x0 x1 x2 x3 x4 x5 x6 x7
              refine wp_region_still_tail 8 (by kernel_rfl) (by kernel_rfl) ?_
              simp only [List.take_succ_cons, List.take_zero, List.drop_succ_cons, List.drop_zero]
              change wpStill _ _ (World.drew _) (fun a' => wpList _ _ _ _ a' (World.drew _)) _ _
              repeat (refine wpStill_step (fun K hK => ?_); go_simp; refine hK _ ?_; clear hK K)
              refine wpStill_nil ?_
              go_wp2_with (first | (go_at_call 57; refine (htop.out _ HS2.out).mono ?_; rintro e w3 ⟨rfl, ⟨v3, A3, c3, h3⟩, hK3⟩; have hM3 := Aside0.mk (hK3.ma hM2.out hba2); have r0 : w3.cell? ⟨p, 0, none⟩ = some (.pointer (some ⟨g, 0, none⟩)) := blk_cell h3.pb 0; replace h3 := Aside0.mk h3; clear hK3 hM2 HS2 htop n6 q0 hbx2 n2 p0 g0 hrun) | (go_at_call 59; refine (hem.out _ _ _ _ h3.out).mono ?_; rintro e w4 ⟨rfl, ⟨v4, A4, c4, h4⟩, hK4⟩; have hM4 := Aside0.mk (hK4.ma hM3.out hba2); replace h4 := Aside0.mk (hnext.out _ _ _ _ _ _ k6.out h4 hM4.out); clear hK4 hM3 h3 hem r0))
              go_roundg (gk - 1)
              case measure => omega
              case rel => exact ⟨i + 1, _, _, _, _, _, _, _, by omega, by simp, h4.out⟩
            · have hl : decide ((i : Int) < (l.length : Int)) = false := decide_eq_false (by omega)
              have HE := HR.eq
              rw [List.drop_eq_nil_of_le (by omega), defS] at HE
              rw [← HE] at hfin hkok
              have hb2c := HR.len
              have hb1c := HR.lc
              have HS := Aside0.mk HR.s
              have HM := Aside0.mk HR.ma
              have habd := Aside0.mk HR.abd
              have p0 : wr.cell? ⟨p, 0, none⟩ = some (.pointer (some ⟨g, 0, none⟩)) := blk_cell HR.s.pb 0
              have g3 : wr.cell? ⟨g, 3, none⟩ = some (.map (some b2)) := blk_cell HR.s.k.blk 3
              have hmc : World.ownsMap (H := Unit) wr Tryd.prog 3 (plainElem Tryd.prog 9) b2 st1.calls.length (mpD st1.calls) := HR.s.m
              have hr0 : w0.heap.size ≤ wr.heap.size := HR.s.k.bel.size
              have hrba : wr.heap.size ≠ ba := fun e => by have := HR.ma.lt; omega
              clear HR HE
              go_wp2_with (at_range; refine wpList_range_own _ rfl _ 120 rfl 3 9 law3 Tryd.underlying120 _ b2 _ _ rfl hmc ?_; intro w5 hrg0 hg0 hs0)
              have H4 : L4 w0 g b1 b2 p ba wr.heap.size st1 ad n D v1 A1 c1 (Go.Maps.has (mpD st1.calls)) (Go.Maps.size (mpD st1.calls)) w5 := ⟨by rw [patW_start]; exact (HS.out.grown0 hg0).k, hrg0, fun _ h => h, HM.out.move (hg0.block _ HM.out.lt (by simp)), (HS.out.grown0 hg0).pb⟩
              generalize wr.heap.size = rb at *
              replace H4 := Aside0.mk H4
              clear hrg0 hg0 hs0 HS HM hmc p0 g3
              go_loopw [20] (fun _ wr => ∃ (left : Lit → Bool) (cnt : Nat), L4 w0 g b1 b2 p ba rb st1 ad n D v1 A1 c1 left cnt wr) (fun _ wr => wr.rangeLeft b2 rb)
              case atStart => exact ⟨_, _, H4.out⟩
              case round =>
                clear H4
                obtain ⟨left, cnt, HR⟩ := hrel
                have p0 : wr.cell? ⟨p, 0, none⟩ = some (.pointer (some ⟨g, 0, none⟩)) := blk_cell HR.pb 0
                have g0 : wr.cell? ⟨g, 0, none⟩ = some v1 := blk_cell HR.k.blk 0
                have hlp := blk_lt HR.pb
                have hlg := blk_lt HR.k.blk
                have hrg := HR.rg
                replace HR := Aside0.mk HR
                go_wp2_with (at_next; refine wpList_next_ranges _ rfl _ rfl 3 law3 (plainElem Tryd.prog 9) (Value.int .i64) Value.string (fun key kl hk => by obtain ⟨x, rfl, _⟩ := Go.Maps.keyOf_int_inv Tryd.underlying3 hk; exact ⟨x, rfl⟩) (fun v y hv => by obtain ⟨c, rfl, _⟩ := plain9_inv hv; exact ⟨c, rfl⟩) b2 rb _ _ _ _ rfl hrg ?_ ?_)
                · intro hc0 hl0
                  have hend := patW_end (st := st1) (ad := ad) (left := left) hl0
                  have hkk := HR.out.k
                  rw [hend] at hkk
                  replace hkk := Aside0.mk hkk
                  clear hrg hend
                  go_wp2_with fail
                  go_ret3
                  rw [hfin.out]
                  exact ⟨_, rfl, Kd.R_lower (Kd.R_mono hkk.out.own (fun _ _ => trivial)) HB2.out.size, below_step HB2.out hkk.out.bel⟩
                · intro x s kl yd yp w2 cnt2 hkey hlk hv hat hrg2 hlt hg2 hs2 hen
                  obtain ⟨x', ex, rfl, _⟩ := Go.Maps.keyOf_int_inv Tryd.underlying3 hkey
                  cases ex
                  obtain ⟨s', es', ey⟩ := plain9_inv hv
                  cases es'
                  cases ey
                  obtain ⟨j, rfl, hn, hj, hsz⟩ := HR.out.came hkok.out hlk hat
                  obtain ⟨hk2, hm2, hp2⟩ := HR.out.moved hr0 hrba hg2 hrg2
                  obtain ⟨gr, cr2, rfl, hgr, hfr, ⟨u, hcu⟩, hR5, hG5⟩ := k40_put5 hk2.drew.own j (by rw [patW_len]; exact hj) (adOf ad s)
                  have hlook := hm2.drew.look s hsz
                  have g0 : w2.cell? ⟨g, 0, none⟩ = some (.slice (some ⟨gr, 0, none⟩) st1.code.length cr2) := by rw [← patW_len st1.code st1.calls ad (doneP (mpD st1.calls) left)]; exact blk_cell hk2.blk 0
                  have p0 : w2.cell? ⟨p, 0, none⟩ = some (.pointer (some ⟨g, 0, none⟩)) := blk_cell hp2 0
                  have hj0 : (0 : Int) ≤ (j : Int) := Int.natCast_nonneg j
                  have hj1 : (j : Int) < (st1.code.length : Int) := by omega
                  have hKO := Aside0.mk ((hk2.drew.out (mb := none)).landed (gr := gr) (p := ⟨gr, j * 6 + 5, none⟩) rfl rfl hR5 hG5)
                  have hgb2 : b2 ≠ gr := by
                    rintro rfl
                    obtain ⟨es1, cl1, hb⟩ := hrg2.owns
                    have hb' := hb.1
                    obtain ⟨_, inner, ho, _⟩ := hk2.own
                    rcases ho.2 with ⟨q, _⟩ | ⟨g', cap, cur, q, _, hh, _⟩
                    · cases q
                    · cases q
                      rw [hh] at hb'
                      cases hb'
                  have hgrb : rb ≠ gr := by
                    rintro rfl
                    obtain ⟨_, _, _, _, _, _, _, _, _, hit, _⟩ := hrg2
                    obtain ⟨_, inner, ho, _⟩ := hk2.own
                    rcases ho.2 with ⟨q, _⟩ | ⟨g', cap, cur, q, _, hh, _⟩
                    · cases q
                    · cases q
                      rw [hh] at hit
                      cases hit
                  have hrg3 := Aside0.mk ((show w2.drew.ranges Tryd.prog 3 (plainElem Tryd.prog 9) b2 rb st1.calls.length (mpD st1.calls) (fun z => left z && !z.sameKey (.int .i64 (j : Int))) cnt2 from hrg2).kept hG5 (by simpa using hgb2) (by simpa using hgrb))
                  have hma3 := Aside0.mk (hm2.drew.move (hG5.block ba hm2.lt (by
                    obtain ⟨es1, cl1, hb⟩ := hm2.at_blk
                    exact map_ne_row hb hk2)))
                  have hpb3 := Aside0.mk (blk_grown (w := w2.drew) hp2 hG5 (fun e => by
                    have e1 : p = gr := by simpa using e
                    obtain ⟨_, inner, ho, _⟩ := hk2.own
                    rcases ho.2 with ⟨q, _⟩ | ⟨g', cap, cur, q, _, hh, _⟩
                    · cases q
                    · cases q
                      rw [← e1, hp2] at hh
                      cases hh))
                  have hsub := Aside0.mk HR.out.sub
                  have hmeas := HR.out.rg.left_eq
                  replace hn := Aside0.mk hn
                  replace hmeas := Aside0.mk hmeas
                  replace hlt := Aside0.mk hlt
                  clear hk2 hm2 hp2 hR5 hG5 HR hrg hrg2 hg2 hs2 hkey hlk hv hat
                  go_upto_region 34 with fail
                  refine wp_region_still_tail 10 (by kernel_rfl) (by kernel_rfl) ?_
                  simp only [List.take_succ_cons, List.take_zero, List.drop_succ_cons, List.drop_zero]
                  change wpStill _ _ (World.drew _) (fun a' => wpList _ _ _ _ a' (World.drew _)) _ _
                  repeat (refine wpStill_step (fun K hK => ?_); go_simp; refine hK _ ?_; clear hK K)
                  refine wpStill_nil ?_
                  go_wp2_with fail
                  go_roundw
                  case rel => exact ⟨_, cnt2, ⟨by rw [← patW_step hn.out]; exact hKO.out.st, hrg3.out, fun kl h => hsub.out kl (by simp only [Bool.and_eq_true] at h; exact h.1), hma3.out, hpb3.out⟩⟩
                  case measure => rw [hmeas.out]; exact Nat.lt_of_le_of_lt (Nat.le_of_eq hrg3.out.left_eq) hlt.out
end Go.Proofs.YtkpnfejfbmandaaDoor.Px

/- slices.Equal over instructions. -/
namespace Go.Proofs.YtkpnfejfbmandaaDoor.Px
open Go.RowKit Go.Proofs.YtkpnfejfbmandaaDoorW.PrintWords Go.Proofs.YtkpnfejfbmandaaDoorW.PrintLast Go.Proofs.YtkpnfejfbmandaaDoorW.PrintMore
set_option linter.unusedVariables false
set_option linter.unusedSimpArgs false
theorem eqA40 (d : Nat) (w : World) (x0 y0 x4 y4 x5 y5 : Int) (x1 y1 x2 y2 : ByteArray) (x3 y3 : Bool) :
    (Op.equalIn (d + 2) 40 (.agg #[.int .i64 x0, .string x1, .string x2, .bool x3, .int .i64 x4, .int .i64 x5]) (.agg #[.int .i64 y0, .string y1, .string y2, .bool y3, .int .i64 y4, .int .i64 y5])).run Tryd.prog w = .ok (x0 == y0 && (x1.toList == y1.toList && (x2.toList == y2.toList && (x3 == y3 && (x4 == y4 && (x5 == y5)))))) w := by
  refine eqA_of Tryd.underlying40 (by kernel_rfl) ?_
  refine eqf_cons (by rfl) (by go_simp; rfl) (by go_simp; rfl) (by go_simp) ?_
  refine eqf_cons (by rfl) (by go_simp; rfl) (by go_simp; rfl) (by go_simp) ?_
  refine eqf_cons (by rfl) (by go_simp; rfl) (by go_simp; rfl) (by go_simp) ?_
  refine eqf_cons (by rfl) (by go_simp; rfl) (by go_simp; rfl) (by go_simp) ?_
  refine eqf_cons (by rfl) (by go_simp; rfl) (by go_simp; rfl) (by go_simp) ?_
  exact eqf_last (by rfl) (by go_simp; rfl) (by go_simp; rfl) (by go_simp)
attribute [local go_sem high] eqA40
def insB (x y : S40) : Bool := x.f0 == y.f0 && (x.f1.toList == y.f1.toList && (x.f2.toList == y.f2.toList && (x.f3 == y.f3 && (x.f4 == y.f4 && (x.f5 == y.f5)))))
theorem insB_iff (x y : S40) : insB x y = true ↔ x = y := by
  unfold insB
  constructor
  · intro h
    simp only [Bool.and_eq_true, beq_iff_eq] at h
    obtain ⟨a, b, c, d, e, f⟩ := x; obtain ⟨a', b', c', d', e', f'⟩ := y
    obtain ⟨h0, h1, h2, h3, h4, h5⟩ := h
    dsimp only at h0 h1 h2 h3 h4 h5
    subst h0 h3 h4 h5
    rw [toList_inj h1, toList_inj h2]
  · rintro rfl
    simp
set_option maxHeartbeats 4000000 in
set_option maxRecDepth 100000 in
theorem equal_ins (l m : List S40) (A B : Option Addr) (c d : Nat) (w : World) (hA : Kd.C k40 w A l.length l) (hB : Kd.C k40 w B m.length m) :
    Calls Tryd.prog 23 #[.slice A l.length c, .slice B m.length d] w fun e w' => (∃ b, e = .returned (.bool b) ∧ (b = true ↔ l = m)) ∧ Below w.heap.size w w' := by
  have hm63 : l.length ≤ 9223372036854775807 := hA.2.1
  replace hA := Aside0.mk hA
  replace hB := Aside0.mk hB
  by_cases hl : l.length = m.length
  case neg =>
    have hne : ((l.length : Int) != (m.length : Int)) = true := by simp; omega
    have hne2 : ((l.length : Int) == (m.length : Int)) = false := by simp; omega
    go_enter Tryd.func23, Tryd.ntmps23
    go_wp2
    go_ret
    exact ⟨⟨_, rfl, by simp; intro e; exact hl (by rw [e])⟩, Below.refl _ _⟩
  have hne : ((l.length : Int) != (m.length : Int)) = false := by simp; omega
  have hne2 : ((l.length : Int) == (m.length : Int)) = true := by simp; omega
  replace hl := Aside0.mk hl
  go_enter Tryd.func23, Tryd.ntmps23
  go_wp2
  go_loopg [13] l.length (fun kq v13 wr => ∃ i : Nat, kq + i = l.length ∧ v13 = .int .i64 i ∧ Aside0 (∀ j (h1 : j < l.length) (h2 : j < m.length), j < i → l[j] = m[j]) ∧ Aside0 (Below w.heap.size w wr))
  case atStart => exact ⟨0, rfl, rfl, ⟨fun j _ _ h => absurd h (Nat.not_lt_zero _)⟩, ⟨Below.refl _ _⟩⟩
  case round =>
    obtain ⟨i, hki, rfl, HJ, HB⟩ := hrel
    by_cases hlt2 : i < l.length
    · have hll : decide ((i : Int) < (l.length : Int)) = true := decide_eq_true (by omega)
      have hlm : decide ((i : Int) < (m.length : Int)) = true := decide_eq_true (by have := hl.out; omega)
      have hm2 : (i : Int) < (m.length : Int) := by have := hl.out; omega
      obtain ⟨ad, hAe, x0, x1, x2, x3, x4, x5⟩ := at_T40 hA.out (i : Int) (by omega) (by omega)
      obtain ⟨bd, hBe, y0, y1, y2, y3, y4, y5⟩ := at_T40 hB.out (i : Int) (by omega) (by omega)
      have hi2 : i < m.length := by have := hl.out; omega
      have hrd : rd_T40 l (i : Int) = l[i] := by unfold rd_T40; simp [List.getD, hlt2]
      have hrm : rd_T40 m (i : Int) = m[i] := by unfold rd_T40; simp [List.getD, hi2]
      simp only [Int.toNat_natCast] at x0 x1 x2 x3 x4 x5 y0 y1 y2 y3 y4 y5
      rw [hrd] at x0 x1 x2 x3 x4 x5
      rw [hrm] at y0 y1 y2 y3 y4 y5
      have up : ∀ {a : Addr} {u : Value}, w.cell? a = some u → wr.cell? a = some u := fun h => (HB.out.cell (World.block_lt_of_cell? _ _ h)).trans h
      subst hAe hBe
      replace x0 := up x0
      replace x1 := up x1
      replace x2 := up x2
      replace x3 := up x3
      replace x4 := up x4
      replace x5 := up x5
      replace y0 := up y0
      replace y1 := up y1
      replace y2 := up y2
      replace y3 := up y3
      replace y4 := up y4
      replace y5 := up y5
      clear up hrd hrm
      have hE := insB_iff l[i] m[i]
      have hN : ∀ (p : l[i] = m[i]) j (h1 : j < l.length) (h2 : j < m.length), j < i + 1 → l[j] = m[j] := fun p j h1 h2 h3 => by
        by_cases e : j = i
        · subst e; exact p
        · exact HJ.out j h1 h2 (by omega)
      have hF : l[i] ≠ m[i] → l ≠ m := fun h e => h (by simp [e])
      replace hN := Aside0.mk hN
      replace hF := Aside0.mk hF
      unfold insB at hE
      generalize l[i] = x at *
      generalize m[i] = y at *
      cases hq : (x.f0 == y.f0 && (x.f1.toList == y.f1.toList && (x.f2.toList == y.f2.toList && (x.f3 == y.f3 && (x.f4 == y.f4 && (x.f5 == y.f5))))))
      all_goals
        rw [hq] at hE
        replace hE := Aside0.mk hE
        go_wp2
        go_quiet (fail)
        go_wp2
      · go_ret
        exact ⟨⟨_, rfl, by simp; exact hF.out (fun p => by have := hE.out.2 p; cases this)⟩, by repeat (first | exact HB.out | apply pw_below_drewN | apply below_drew1)⟩
      · go_roundg (gk - 1)
        case measure => omega
        case rel => exact ⟨i + 1, by omega, by simp, ⟨hN.out (hE.out.1 (by first | rfl | trivial))⟩, ⟨by repeat (first | exact HB.out | apply pw_below_drewN | apply below_drew1)⟩⟩
    · have hll : decide ((i : Int) < (l.length : Int)) = false := decide_eq_false (by omega)
      go_wp2
      go_ret
      exact ⟨⟨_, rfl, by simp; exact List.ext_getElem hl.out (fun j h1 h2 => HJ.out j h1 h2 (by omega))⟩, HB.out⟩
end Go.Proofs.YtkpnfejfbmandaaDoor.Px
