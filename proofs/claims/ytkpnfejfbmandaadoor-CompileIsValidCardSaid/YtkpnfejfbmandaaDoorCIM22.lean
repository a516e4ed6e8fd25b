import Derived.Test.YtkpnfejfbmandaaDoorCIM2
import Derived.Test.YtkpnfejfbmandaaDoorCIM16
import Derived.Test.YtkpnfejfbmandaaDoorCIM21
import Derived.Test.YtkpnfejfbmandaaDoorCIM20
import Derived.Maps.RangeWalk
namespace Go.Proofs.YtkpnfejfbmandaaDoor.Px
open Go.RowKit Go.Proofs.YtkpnfejfbmandaaDoorW.PrintWords Go.Proofs.YtkpnfejfbmandaaDoorW.PrintLast Go.Proofs.YtkpnfejfbmandaaDoorW.PrintMore
attribute [local go_sem] max2_int min2_int max_two min_two max_three min_three max_four min_four   -- for this text's walks alone
set_option linter.unusedVariables false
set_option linter.unusedSimpArgs false
/-- A state of type 86 at block g of W; what its slices lead to came in by w0. -/
def IsS86 (w0 W : World) (g : Nat) (f0 : List Int) (f1 : Int) (f2 : Int) : Prop := ∃ A0 c0, W.heap[g]? = some (.cells #[.slice A0 f0.length c0, .int .i64 f1, .int .i64 f2] 86 (0, 0)) ∧ w0.heap.size ≤ g ∧ Kd.C (Kd.int .i64) w0 A0 f0.length f0
theorem IsS86.grown {w0 W : World} {g : Nat} {f0 : List Int} {f1 : Int} {f2 : Int} {W1 : World} {row : Option Nat} (h : IsS86 w0 W g f0 f1 f2) (hw : W.grownBy W1 row) (hne : some g ≠ row) : IsS86 w0 W1 g f0 f1 f2 := by
  obtain ⟨A0, c0, hb, hg, hr0⟩ := h
  exact ⟨A0, c0, blk_grown hb hw hne, hg, hr0⟩
theorem IsS86.kept {w0 W : World} {g : Nat} {f0 : List Int} {f1 : Int} {f2 : Int} {W1 : World} {S : Nat → Prop} (h : IsS86 w0 W g f0 f1 f2) (hk : Kept W W1 S) (hne : ¬ S g) : IsS86 w0 W1 g f0 f1 f2 := by
  obtain ⟨A0, c0, hb, hg, hr0⟩ := h
  exact ⟨A0, c0, blk_kept hb hk hne, hg, hr0⟩
theorem IsS86.below {w0 W : World} {g : Nat} {f0 : List Int} {f1 : Int} {f2 : Int} {W1 : World} (h : IsS86 w0 W g f0 f1 f2) (hw : Below W.heap.size W W1) : IsS86 w0 W1 g f0 f1 f2 := h.grown (grown_of_below hw none) (by simp)
theorem IsS86.alloc {w0 W : World} {g : Nat} {f0 : List Int} {f1 : Int} {f2 : Int} (h : IsS86 w0 W g f0 f1 f2) (o : Obj) : IsS86 w0 (W.alloc o) g f0 f1 f2 := h.below (below_alloc (Below.refl _ _) o)
theorem IsS86.drewN {w0 W : World} {g : Nat} {f0 : List Int} {f1 : Int} {f2 : Int} (h : IsS86 w0 W g f0 f1 f2) (m : Nat) : IsS86 w0 (W.drewN m) g f0 f1 f2 := h
theorem IsS86.drew {w0 W : World} {g : Nat} {f0 : List Int} {f1 : Int} {f2 : Int} (h : IsS86 w0 W g f0 f1 f2) : IsS86 w0 W.drew g f0 f1 f2 := h
theorem IsS86.at_ {w0 W : World} {g : Nat} {f0 : List Int} {f1 : Int} {f2 : Int} {w' : World} {m : Nat} (hq : W.drewN m = w') (h : IsS86 w0 W g f0 f1 f2) : IsS86 w0 w' g f0 f1 f2 := by subst hq; exact IsS86.drewN h m
theorem IsS86.apart {w0 W : World} {g : Nat} {f0 : List Int} {f1 : Int} {f2 : Int} {α : Type} {d : Kd α} {e : Nat} {base : Nat} {ok : Nat → Prop} {v : Value} {xs : List α} (h : IsS86 w0 W g f0 f1 f2) (ho : d.R e W base ok v xs) (ht : ∀ q, q ∈ e :: d.E → q ≠ 86) : d.R e W base (fun k => ok k ∧ k ≠ g) v xs := by
  obtain ⟨A0, c0, hb, hg, hr0⟩ := h
  exact Kd.R_types ho hb ht
theorem IsS86.own_ne {w0 W : World} {g : Nat} {f0 : List Int} {f1 : Int} {f2 : Int} {α : Type} {d : Kd α} {e : Nat} {base : Nat} {ok : Nat → Prop} {v : Value} {xs : List α} (h : IsS86 w0 W g f0 f1 f2) (ho : d.R e W base ok v xs) (ht : e ≠ 86) : some g ≠ v.ownBlock := by
  obtain ⟨A0, c0, hb, hg, hr0⟩ := h
  exact Kd.R_ne ho hb ht
theorem IsS86.lt {w0 W : World} {g : Nat} {f0 : List Int} {f1 : Int} {f2 : Int} (h : IsS86 w0 W g f0 f1 f2) : g < W.heap.size := by
  obtain ⟨A0, c0, hb, hg, hr0⟩ := h
  exact blk_lt hb
theorem IsS86.ge {w0 W : World} {g : Nat} {f0 : List Int} {f1 : Int} {f2 : Int} (h : IsS86 w0 W g f0 f1 f2) : w0.heap.size ≤ g := by
  obtain ⟨A0, c0, hb, hg, hr0⟩ := h
  exact hg
theorem IsS86.far {w0 W : World} {g : Nat} {f0 : List Int} {f1 : Int} {f2 : Int} {p : Addr} (h : IsS86 w0 W g f0 f1 f2) (hne : g ≠ p.block) (u : Value) : IsS86 w0 (W.setCell p u) g f0 f1 f2 := by
  obtain ⟨A0, c0, hb, hg, hr0⟩ := h
  exact ⟨A0, c0, blk_far hb hne u, hg, hr0⟩
theorem IsS86.new (w0 W : World) (A0 : Option Addr) (c0 : Nat) (f0 : List Int) (f1 : Int) (f2 : Int) (hB : Below w0.heap.size w0 W) (hr0 : Kd.C (Kd.int .i64) w0 A0 f0.length f0) : IsS86 w0 (W.alloc (.cells #[.slice A0 f0.length c0, .int .i64 f1, .int .i64 f2] 86)) W.heap.size f0 f1 f2 := ⟨A0, c0, by simpa using heap_alloc_new W _, hB.size, hr0⟩
end Go.Proofs.YtkpnfejfbmandaaDoor.Px
namespace Go.Proofs.YtkpnfejfbmandaaDoor.Px
open Go.RowKit Go.Proofs.YtkpnfejfbmandaaDoorW.PrintWords Go.Proofs.YtkpnfejfbmandaaDoorW.PrintLast Go.Proofs.YtkpnfejfbmandaaDoorW.PrintMore
set_option linter.unusedVariables false
set_option linter.unusedSimpArgs false
mutual
def cntL : List S78 → Nat
  | [] => 0
  | x :: xs => cntN x + cntL xs
def cntN : S78 → Nat
  | ⟨k, _, _, _, _, _, b, l⟩ => 1 + (if k = 2 then cntL b + cntL l else if k = 3 ∨ k = 6 then cntL b else 0)
end
theorem cntN_eq (x : S78) : cntN x = 1 + (if x.f0 = 2 then cntL x.f6 + cntL x.f7 else if x.f0 = 3 ∨ x.f0 = 6 then cntL x.f6 else 0) := by cases x; simp [cntN]
theorem cntL_cons (x : S78) (xs : List S78) : cntL (x :: xs) = cntN x + cntL xs := by simp [cntL]
mutual
def nstL : List S78 → Nat
  | [] => 0
  | x :: xs => max (nstN x) (nstL xs)
def nstN : S78 → Nat
  | ⟨k, _, _, _, _, _, b, l⟩ => if k = 2 then max (1 + nstL b) (1 + nstL l) else if k = 3 ∨ k = 6 then 1 + nstL b else 0
end
theorem nstN_eq (x : S78) : nstN x = if x.f0 = 2 then max (1 + nstL x.f6) (1 + nstL x.f7) else if x.f0 = 3 ∨ x.f0 = 6 then 1 + nstL x.f6 else 0 := by cases x; simp [nstN]
theorem nstL_cons (x : S78) (xs : List S78) : nstL (x :: xs) = max (nstN x) (nstL xs) := by simp [nstL]
theorem getN (l : List S78) (i : Nat) (h : i < l.length) : nN l[i] ≤ nL l := nL_mem l l[i] (List.getElem_mem h)
end Go.Proofs.YtkpnfejfbmandaaDoor.Px
namespace Go.Proofs.YtkpnfejfbmandaaDoor.Px
open Go.RowKit Go.Proofs.YtkpnfejfbmandaaDoorW.PrintWords Go.Proofs.YtkpnfejfbmandaaDoorW.PrintLast Go.Proofs.YtkpnfejfbmandaaDoorW.PrintMore
set_option linter.unusedVariables false
set_option linter.unusedSimpArgs false
mutual
def prL : List S78 → Nat
  | [] => 0
  | x :: xs => prN x + prL xs
def prN : S78 → Nat
  | ⟨k, _, _, _, _, _, b, l⟩ => (if k = 1 then 1 else 0) + prL b + prL l
end
theorem prN_eq (x : S78) : prN x = (if x.f0 = 1 then 1 else 0) + prL x.f6 + prL x.f7 := by cases x; simp [prN]
theorem prL_cons (x : S78) (xs : List S78) : prL (x :: xs) = prN x + prL xs := by simp [prL]
theorem prL_one (x : S78) : prL [x] = prN x := by rw [prL_cons]; simp [prL]
mutual
theorem pr_le : ∀ l : List S78, prL l ≤ nL l
  | [] => by simp [prL, nL]
  | x :: xs => by have := pr_le xs; have := prn_le x; rw [prL_cons, nL_cons]; omega
theorem prn_le : ∀ x : S78, prN x ≤ nN x
  | ⟨k, _, _, _, _, _, b, l⟩ => by
    have := pr_le b; have := pr_le l
    rw [prN_eq, nN_eq]; dsimp only
    split <;> omega
end
abbrev PE (l : List S78) : Prop := nL l ≤ 1000000000 → Ev (fun k => compile_prints.f k l) (prL l : Int)
theorem prints_step (l : List S78) (ih : ∀ x ∈ l, PE x.f6 ∧ PE x.f7) : PE l := by
  intro hn
  have loop : ∀ (d i : Nat) (x3 : Int), i ≤ l.length → l.length - i = d → 0 ≤ x3 → x3 + prL (l.drop i) ≤ 2000000000 →
      Ev (fun k => compile_prints.l0 k x3 l (l.length : Int) (i : Int)) (x3 + prL (l.drop i)) := by
    intro d
    induction d with
    | zero =>
      intro i x3 hi hd h3 hb
      obtain rfl : i = l.length := by omega
      refine ⟨1, fun k hk => ?_⟩
      obtain ⟨k, rfl⟩ : ∃ j, k = j + 1 := ⟨k - 1, by omega⟩
      show compile_prints.l0 (k + 1) _ _ _ _ = _
      rw [compile_prints.l0, if_neg (by omega), List.drop_length]
      simp [prL]
    | succ d ihd =>
      intro i x3 hi hd h3 hb
      have hlt : i < l.length := by omega
      have e1 : l.drop i = l[i] :: l.drop (i + 1) := List.drop_eq_getElem_cons hlt
      have r1 : rd_T78 l (i : Int) = l[i] := rd_T78_at l i hlt
      obtain ⟨ih6, ih7⟩ := ih l[i] (List.getElem_mem hlt)
      have hg := getN l i hlt
      have hll := nL_len l
      rw [nN_eq] at hg
      have p6 := pr_le l[i].f6
      have p7 := pr_le l[i].f7
      have ec : prL (l.drop i) = (if l[i].f0 = 1 then 1 else 0) + prL l[i].f6 + prL l[i].f7 + prL (l.drop (i + 1)) := by rw [e1, prL_cons, prN_eq]
      refine Ev.shift (f := fun k => (compile_prints.f k l[i].f6).bind fun a => (compile_prints.f k l[i].f7).bind fun b => (if l[i].f0 = 1 then compile_prints.l0 k (wrap64 (wrap64 (x3 + wrap64 (a + b)) + 1)) l (l.length : Int) (wrap64 ((i : Int) + 1)) else compile_prints.l0 k (wrap64 (x3 + wrap64 (a + b))) l (l.length : Int) (wrap64 ((i : Int) + 1)))) ?_ (fun k => by
        rw [compile_prints.l0, if_pos (by omega), if_pos (by omega), if_pos (by omega), r1])
      refine Ev.bind (ih6 (by omega)) (Ev.bind (ih7 (by omega)) ?_)
      rw [w64 (n := (prL l[i].f6 : Int) + prL l[i].f7) (by omega) (by omega), w64 (n := x3 + ((prL l[i].f6 : Int) + prL l[i].f7)) (by omega) (by omega), w64 (n := (i : Int) + 1) (by omega) (by omega), show ((i : Int) + 1) = ((i + 1 : Nat) : Int) by omega]
      by_cases h1 : l[i].f0 = 1
      · simp only [if_pos h1] at ec ⊢
        rw [w64 (by omega) (by omega)]
        have := ihd (i + 1) (x3 + ((prL l[i].f6 : Int) + prL l[i].f7) + 1) (by omega) (by omega) (by omega) (by rw [ec] at hb; omega)
        rw [show x3 + (prL (l.drop i) : Int) = x3 + ((prL l[i].f6 : Int) + prL l[i].f7) + 1 + (prL (l.drop (i + 1)) : Int) by rw [ec]; omega]
        exact this
      · simp only [if_neg h1] at ec ⊢
        have := ihd (i + 1) (x3 + ((prL l[i].f6 : Int) + prL l[i].f7)) (by omega) (by omega) (by omega) (by rw [ec] at hb; omega)
        rw [show x3 + (prL (l.drop i) : Int) = x3 + ((prL l[i].f6 : Int) + prL l[i].f7) + (prL (l.drop (i + 1)) : Int) by rw [ec]; omega]
        exact this
  have hcl := pr_le l
  obtain ⟨K, hK⟩ := loop l.length 0 0 (by omega) (by omega) (by omega) (by rw [List.drop_zero]; omega)
  refine ⟨K + 1, fun k hk => ?_⟩
  obtain ⟨k, rfl⟩ : ∃ j, k = j + 1 := ⟨k - 1, by omega⟩
  show compile_prints.f (k + 1) l = _
  rw [compile_prints.f]
  have := hK k (by omega)
  dsimp only at this
  rw [List.drop_zero] at this
  refine this.trans (congrArg some ?_)
  omega
theorem prints_all : ∀ (n : Nat) (l : List S78), SizeOf.sizeOf l < n → PE l
  | 0, l, h => absurd h (Nat.not_lt_zero _)
  | n + 1, l, h => prints_step l fun x hx => by
      have h1 := List.sizeOf_lt_of_mem hx
      exact ⟨prints_all n x.f6 (by have := S78.size6 x; omega), prints_all n x.f7 (by have := S78.size7 x; omega)⟩
theorem prints_ev (l : List S78) (h : nL l ≤ 1000000000) : Ev (fun k => compile_prints.f k l) (prL l : Int) := prints_all _ l (Nat.lt_succ_self _) h
theorem prints_any {l : List S78} (h : nL l ≤ 1000000000) (A : Option Addr) (c : Nat) (w : World) (hC : Kd.C k78 w A l.length l) (hc : l.length ≤ c) :
    Calls Tryd.prog 56 #[.slice A l.length c] w fun e w' => e = .returned (.int .i64 (prL l)) ∧ Below w.heap.size w w' := by
  obtain ⟨K, hK⟩ := prints_ev l h
  exact compile_prints.calls K A c l _ w hC hc (hK K (Nat.le_refl _))
end Go.Proofs.YtkpnfejfbmandaaDoor.Px
namespace Go.Proofs.YtkpnfejfbmandaaDoor.Px
open Go.RowKit Go.Proofs.YtkpnfejfbmandaaDoorW.PrintWords Go.Proofs.YtkpnfejfbmandaaDoorW.PrintLast Go.Proofs.YtkpnfejfbmandaaDoorW.PrintMore
open Go.Maps Go.ChangeMaps Go.MapKept
set_option linter.unusedVariables false
set_option linter.unusedSimpArgs false
def topS : List S78 → List Int → KS → KS
  | [], _, st => st
  | x :: xs, es, st => topS xs (es.drop (prN x)) (if x.f0 = 6 then st else gN x ⟨st.code, es.take (prN x), st.calls⟩)
def defS : List S78 → List Int → KS → List (ByteArray × Int) → KS × List (ByteArray × Int)
  | [], _, st, ad => (st, ad)
  | x :: xs, es, st, ad => if x.f0 = 6 then defS xs (es.drop (prN x)) ((gL x.f6 ⟨st.code, es.take (prN x), st.calls⟩).emit ⟨7, e0, e0, false, 0, 0⟩) (ad ++ [(x.f2, (st.code.length : Int))])
    else defS xs (es.drop (prN x)) st ad
def adOf (ad : List (ByteArray × Int)) (s : ByteArray) : Int := ad.foldl (fun a p => if p.1.data.toList = s.data.toList then p.2 else a) 0
def nmA (K : List (Int × ByteArray)) (i : Int) : Option ByteArray := K.foldl (fun a p => if p.1 = i then some p.2 else a) none
def patW (code : List S40) (K : List (Int × ByteArray)) (ad : List (ByteArray × Int)) (P : Nat → Bool) : List S40 :=
  code.mapIdx fun i x => if P i then { x with f5 := adOf ad ((nmA K i).getD e0) } else x
def codeS (l : List S78) (es : List Int) : List S40 :=
  patW (defS l es ((topS l es ⟨[], [], []⟩).emit ⟨9, e0, e0, false, 0, 0⟩) []).1.code (defS l es ((topS l es ⟨[], [], []⟩).emit ⟨9, e0, e0, false, 0, 0⟩) []).1.calls
    (defS l es ((topS l es ⟨[], [], []⟩).emit ⟨9, e0, e0, false, 0, 0⟩) []).2 fun i => (nmA (defS l es ((topS l es ⟨[], [], []⟩).emit ⟨9, e0, e0, false, 0, 0⟩) []).1.calls i).isSome
def codeF (l : List S78) : List S40 × Int × Int :=
  if (checkF l).2 = 0 then (if (inferF l).2.2 = 0 then (codeS l (inferF l).1, 0, 0) else ([], (inferF l).2.1, (inferF l).2.2)) else ([], (checkF l).1, (checkF l).2)
theorem adOf_snoc (ad : List (ByteArray × Int)) (p : ByteArray × Int) (s : ByteArray) : adOf (ad ++ [p]) s = if p.1.data.toList = s.data.toList then p.2 else adOf ad s := by unfold adOf; rw [List.foldl_append]; rfl
theorem nmA_snoc (K : List (Int × ByteArray)) (p : Int × ByteArray) (i : Int) : nmA (K ++ [p]) i = if p.1 = i then some p.2 else nmA K i := by unfold nmA; rw [List.foldl_append]; rfl
theorem nmA_mem {K : List (Int × ByteArray)} {i : Int} {s : ByteArray} (h : nmA K i = some s) : (i, s) ∈ K := by
  unfold nmA at h
  suffices ∀ (l : List (Int × ByteArray)) (a : Option ByteArray), l.foldl (fun a p => if p.1 = i then some p.2 else a) a = some s → (i, s) ∈ l ∨ a = some s from (this K none h).resolve_right (by simp)
  intro l
  induction l with
  | nil => exact fun a h => .inr h
  | cons p l ih =>
    intro a h
    rcases ih _ h with h | h
    · exact .inl (List.mem_cons_of_mem _ h)
    · dsimp only at h
      by_cases e : p.1 = i
      · rw [if_pos e] at h
        left
        obtain rfl := Option.some.inj h
        rw [← e]
        exact List.mem_cons_self
      · rw [if_neg e] at h
        exact .inr h
theorem mpD_isMap (l : List (Int × ByteArray)) : Go.Maps.IsMap (mpD l) := by
  unfold mpD
  suffices ∀ (l : List (Int × ByteArray)) (D : DataW Unit), Go.Maps.IsMap D → Go.Maps.IsMap (l.foldl (fun D p => D.put (.int .i64 p.1) (.lit (.string p.2.data.toList))) D) from this l _ isMap_empty
  intro l
  induction l with
  | nil => exact fun _ h => h
  | cons p l ih => exact fun D h => ih _ (h.put _ _)
theorem mpD_at (l : List (Int × ByteArray)) : ∀ i : Int, Go.Maps.has (mpD l) (.int .i64 i) = (nmA l i).isSome ∧ ∀ s, nmA l i = some s → ∀ zd, (mpD l).atKey (.int .i64 i) zd = .lit (.string s.data.toList) := by
  suffices ∀ (r : List (Int × ByteArray)) (i : Int), Go.Maps.has (mpD r.reverse) (.int .i64 i) = (nmA r.reverse i).isSome ∧ ∀ s, nmA r.reverse i = some s → ∀ zd, (mpD r.reverse).atKey (.int .i64 i) zd = .lit (.string s.data.toList) by
    have := this l.reverse
    rwa [List.reverse_reverse] at this
  intro r
  induction r with
  | nil => exact fun i => ⟨rfl, fun s h => by simp [nmA] at h⟩
  | cons p r ih =>
    intro i
    rw [List.reverse_cons, mpD_snoc, nmA_snoc]
    by_cases e : p.1 = i
    · subst e
      rw [if_pos rfl, has_put_same (mpD_isMap _) (show WideAt.IsKeyLit (Lit.int .i64 p.1) from trivial)]
      exact ⟨rfl, fun s h zd => by rw [atKey_put_same (mpD_isMap _) (show WideAt.IsKeyLit (Lit.int .i64 p.1) from trivial)]; obtain rfl := Option.some.inj h; rfl⟩
    · have hne : (Lit.int .i64 i) ≠ Lit.int .i64 p.1 := fun h => e (by simpa using h.symm)
      rw [if_neg e, has_put_other hne]
      exact ⟨(ih i).1, fun s h zd => by rw [atKey_put_other hne]; exact (ih i).2 s h zd⟩
theorem patW_len (code : List S40) (K ad P) : (patW code K ad P).length = code.length := by simp [patW]
theorem patW_none (code : List S40) (K ad) : patW code K ad (fun _ => false) = code := by
  unfold patW
  apply List.ext_getElem?
  intro i
  rw [List.getElem?_mapIdx]
  simp
theorem patW_congr {code : List S40} {K ad} {P Q : Nat → Bool} (h : ∀ i, P i = Q i) : patW code K ad P = patW code K ad Q := by rw [funext h]
theorem patW_set {code : List S40} {K : List (Int × ByteArray)} {ad : List (ByteArray × Int)} {P : Nat → Bool} {i : Nat} {s : ByteArray} (hs : nmA K i = some s) :
    setTo (patW code K ad P) i (adOf ad s) = patW code K ad (fun j => P j || decide (j = i)) := by
  unfold patW setTo
  apply List.ext_getElem?
  intro j
  rw [List.getElem?_modify, List.getElem?_mapIdx, List.getElem?_mapIdx]
  cases code[j]? with
  | none => rfl
  | some x =>
    simp only [Option.map_some, Option.map_eq_map]
    by_cases hij : i = j
    · subst hij
      rw [if_pos rfl, hs, if_pos (by simp : (P i || decide (i = i)) = true)]
      by_cases hP : P i = true
      · rw [if_pos hP]; rfl
      · rw [if_neg hP]; rfl
    · have hij' : ¬ j = i := fun e => hij e.symm
      rw [if_neg hij]
      simp [hij']
structure MpA (w : World) (b : Nat) (ad : List (ByteArray × Int)) (n : Nat) (D : DataW Unit) : Prop where
  own : w.ownsMap Tryd.prog 9 (plainElem Tryd.prog 3) b n D
  le : n ≤ ad.length
  at_ : ∀ s : ByteArray, D.atKey (kS s) (.lit (.int .i64 0)) = .lit (.int .i64 (adOf ad s))
theorem zero3 (w : World) : (zeroValue 3).run Tryd.prog w = .ok (.int .i64 0) w := by kernel_rfl
theorem wf64 {a : Int} (h0 : 0 ≤ a) (h1 : a ≤ 1000000000000) : (Lit.int .i64 a).wf = true := by have h1 : IntKind.i64.min = -9223372036854775808 := (by decide); have h2 : IntKind.i64.max = 9223372036854775807 := (by decide); simp [Lit.wf, h1, h2]; omega
theorem MpA.look {w : World} {b : Nat} {ad : List (ByteArray × Int)} {n : Nat} {D : DataW Unit} (h : MpA w b ad n D) (s : ByteArray) (hs : s.size ≤ 65536) : (Instr.lookup 127 (.map (some b)) (.string s) false).run Tryd.prog w = .ok (.int .i64 (adOf ad s)) w := by
  obtain ⟨v, ps, hr, hv⟩ := h.own.lookup law9 Tryd.underlying127 (zero3 w) (plainElem_int (H := Unit) Tryd.underlying3 (a := 0) (wf64 (by decide) (by decide))) (Go.WideMaps.keyOf_string_mk Tryd.underlying9 (show s.size ≤ maxLen by unfold maxLen; omega))
  rw [show (Lit.string s.data.toList) = kS s from rfl, h.at_ s] at hv
  obtain ⟨a, rfl, e, _⟩ := plainElem_int_inv Tryd.underlying3 hv
  rw [hr]
  have : adOf ad s = a := by simpa using congrArg Prod.fst e
  rw [this]
theorem MpA.start (w : World) : MpA (w.alloc (.map #[] 0)) w.heap.size [] 0 (.map []) := ⟨World.ownsMap_made _ _ _ _, Nat.le_refl _, fun s => rfl⟩
theorem MpA.put {w w1 : World} {b : Nat} {ad : List (ByteArray × Int)} {n : Nat} {D : DataW Unit} (h : MpA w b ad n D) (x : ByteArray) (q : Int)
    (h1 : w1.ownsMap Tryd.prog 9 (plainElem Tryd.prog 3) b (n + 1) (D.put (kS x) (.lit (.int .i64 q)))) : MpA w1 b (ad ++ [(x, q)]) (n + 1) (D.put (kS x) (.lit (.int .i64 q))) := by
  have ht := h.own.tidy law9
  refine ⟨h1, ?_, fun s => ?_⟩
  · rw [List.length_append]; exact Nat.add_le_add_right h.le 1
  · rw [adOf_snoc]
    dsimp only
    by_cases e : x.data.toList = s.data.toList
    · rw [if_pos e, show kS x = kS s by unfold kS; rw [e], atKey_put_same ht.isMap (kS_key s)]
    · rw [if_neg e, atKey_put_other (fun q => e (by unfold kS at q; simpa using q.symm)), h.at_]
theorem MpA.move {w w1 : World} {b : Nat} {ad : List (ByteArray × Int)} {n : Nat} {D : DataW Unit} (h : MpA w b ad n D) (hb : w1.heap[b]? = w.heap[b]?) : MpA w1 b ad n D := by
  obtain ⟨⟨es, clock, h1, h2, h3, h4⟩, a1, a2⟩ := h
  exact ⟨⟨es, clock, hb.trans h1, h2, h3, h4⟩, a1, a2⟩
theorem MpA.lt {w b ad n D} (h : MpA w b ad n D) : b < w.heap.size := h.own.lt
theorem MpA.alloc {w b ad n D} (h : MpA w b ad n D) (o : Obj) : MpA (w.alloc o) b ad n D := h.move (Below.heap_alloc w o b h.lt)
theorem MpA.drew {w b ad n D} (h : MpA w b ad n D) : MpA w.drew b ad n D := h.move rfl
theorem MpA.at_blk {w b ad n D} (h : MpA w b ad n D) : ∃ es clock, w.heap[b]? = some (.map es clock) := by
  obtain ⟨⟨es, clock, h1, _⟩, _⟩ := h
  exact ⟨es, clock, h1⟩
theorem map_ne_row {w : World} {b : Nat} {es : Array MapEntry} {clock : Nat} {w0 g b1 b2 v code A c left} (h1 : w.heap[b]? = some (.map es clock)) (hS : KIn w0 g b1 b2 v code A c left w) : some b ≠ v.ownBlock := by
  intro e
  obtain ⟨_, inner, ho, _⟩ := hS.own
  rcases ho.2 with ⟨rfl, _⟩ | ⟨g', cap, cur, rfl, _, hh, _⟩
  · cases e
  · obtain rfl : b = g' := by simpa [Value.ownBlock] using e
    rw [hh] at h1
    cases h1
theorem map_ne_g {w : World} {b : Nat} {es : Array MapEntry} {clock : Nat} {w0 g b1 b2 v code A c left} (h1 : w.heap[b]? = some (.map es clock)) (hS : KIn w0 g b1 b2 v code A c left w) : b ≠ g := by
  rintro rfl
  rw [hS.blk] at h1
  cases h1
theorem MpA.kept {w b ad n D w0 g b1 b2 v v2 code A c left code2 A2 c2 left2 W} (h : MpA w b ad n D) (hne : b ≠ b2) (hS : KIn w0 g b1 b2 v code A c left w) (hO : KOut w0 w g b1 b2 (some b2) v v2 code2 A2 c2 left2 W) : MpA W b ad n D := by
  obtain ⟨es, clock, h1⟩ := h.at_blk
  exact h.move (hO.keep.2 b h.lt (map_ne_g h1 hS) (by simpa using hne) (map_ne_row h1 hS))
structure CS (w0 : World) (g b1 b2 p : Nat) (vs : List Value) (v : Value) (st : KS) (A : Option Addr) (c : Nat) (W : World) : Prop where
  k : KIn w0 g b1 b2 v st.code A c st.left W
  m : MpC W b2 st.calls
  e : EscB W b1 vs
  pb : W.heap[p]? = some (.cells #[.pointer (some ⟨g, 0, none⟩)] 118 (0, 0))
theorem CS.alloc {w0 g b1 b2 p vs v st A c W} (h : CS w0 g b1 b2 p vs v st A c W) (o : Obj) : CS w0 g b1 b2 p vs v st A c (W.alloc o) := ⟨h.k.alloc o, h.m.alloc o, h.e.alloc o, blk_alloc h.pb o⟩
theorem CS.drew {w0 g b1 b2 p vs v st A c W} (h : CS w0 g b1 b2 p vs v st A c W) : CS w0 g b1 b2 p vs v st A c W.drew := ⟨h.k.drew, h.m.drew, h.e.drew, h.pb⟩
theorem CS.call {w0 g b1 b2 p vs v st A c W v2 A2 c2 W2} {st2 : KS} (h : CS w0 g b1 b2 p vs v st A c W) (hne : b1 ≠ b2) (hO : KOut w0 W g b1 b2 (some b2) v v2 st2.code A2 c2 st2.left W2) (hM : MpC W2 b2 st2.calls) : CS w0 g b1 b2 p vs v2 st2 A2 c2 W2 :=
  ⟨hO.st, hM, h.e.kept hne h.k hO, KOut.boxed2 h.k h.m hO h.pb (by decide) (by decide)⟩
theorem KIn.below {w0 g b1 b2 v code A c left W W2} (h : KIn w0 g b1 b2 v code A c left W) (hb : Below W.heap.size W W2) : KIn w0 g b1 b2 v code A c left W2 := ⟨blk_below h.blk hb, Kd.R_below h.own hb, h.lf, h.le, below_weaken h.bel h.bel.size hb, h.ge⟩
theorem CS.below {w0 g b1 b2 p vs v st A c W W2} (h : CS w0 g b1 b2 p vs v st A c W) (hb : Below W.heap.size W W2) : CS w0 g b1 b2 p vs v st A c W2 :=
  ⟨h.k.below hb, h.m.move (hb.block _ h.m.lt), h.e.move (hb.block _ h.e.lt), blk_below h.pb hb⟩
def esI (l : List S78) (es : List Int) (i : Nat) : List Int := (es.drop (prL (l.take i))).take (prN (rd_T78 l i))
def VsOk (w0 : World) (l : List S78) (es : List Int) (vs : List Value) : Prop := ∀ i, i < vs.length → ∃ A c, vs[i]? = some (.slice A (esI l es i).length c) ∧ Kd.C (Kd.int .i64) w0 A (esI l es i).length (esI l es i) ∧ (esI l es i).length ≤ c
mutual
theorem eL_pr : ∀ l : List S78, eL l ≤ prL l
  | [] => by simp [eL, prL]
  | x :: xs => by have := eL_pr xs; have := eN_pr x; rw [eL, prL_cons]; omega
theorem eN_pr : ∀ x : S78, eN x ≤ prN x
  | ⟨k, _, _, _, _, f5, b, l⟩ => by
    have := eL_pr b; have := eL_pr l
    rw [eN, prN_eq]; dsimp only
    by_cases h1 : k = 1
    · rw [if_pos h1, if_pos h1]; omega
    · rw [if_neg h1, if_neg h1]
      by_cases h2 : k = 2
      · rw [if_pos h2]; cases f5 <;> simp <;> omega
      · rw [if_neg h2]
        by_cases h3 : k = 3
        · rw [if_pos h3]; omega
        · rw [if_neg h3]; omega
end
theorem prL_append : ∀ (xs ys : List S78), prL (xs ++ ys) = prL xs + prL ys
  | [], ys => by simp [prL]
  | x :: xs, ys => by rw [List.cons_append, prL_cons, prL_cons, prL_append xs ys]; omega
theorem prL_take_succ (l : List S78) (i : Nat) (hi : i < l.length) : prL (l.take (i + 1)) = prL (l.take i) + prN l[i] := by
  rw [List.take_succ_eq_append_getElem hi, prL_append, prL_one]
theorem prL_take_le (l : List S78) (i : Nat) : prL (l.take i) ≤ prL l := by
  have := prL_append (l.take i) (l.drop i)
  rw [List.take_append_drop] at this
  omega
end Go.Proofs.YtkpnfejfbmandaaDoor.Px
namespace Go.Proofs.YtkpnfejfbmandaaDoor.Px
open Go.RowKit Go.Proofs.YtkpnfejfbmandaaDoorW.PrintWords Go.Proofs.YtkpnfejfbmandaaDoorW.PrintLast Go.Proofs.YtkpnfejfbmandaaDoorW.PrintMore
set_option linter.unusedVariables false
set_option linter.unusedSimpArgs false
def KOk2 (st : KS) : Prop := ∀ q ∈ st.calls, ∃ j : Nat, q.1 = (j : Int) ∧ j < st.code.length ∧ q.2.size ≤ 65536
theorem KOk2.emit {st : KS} (h : KOk2 st) (x : S40) : KOk2 (st.emit x) := fun q hq => by
  obtain ⟨j, h1, h2, h3⟩ := h q hq
  exact ⟨j, h1, by simp only [KS.emit, List.length_append, List.length_singleton]; omega, h3⟩
theorem KOk2.land {st : KS} (h : KOk2 st) (i : Nat) : KOk2 (st.land i) := fun q hq => by
  obtain ⟨j, h1, h2, h3⟩ := h q hq
  exact ⟨j, h1, by simp only [KS.land, setTo_length]; exact h2, h3⟩
mutual
theorem gL_kok : ∀ (l : List S78) (st : KS), smL l → KOk2 st → KOk2 (gL l st)
  | [], st, _, h => by rw [gL]; exact h
  | x :: xs, st, hs, h => by rw [gL]; exact gL_kok xs _ hs.2 (gN_kok x st hs.1 h)
theorem gN_kok : ∀ (x : S78) (st : KS), smN x → KOk2 st → KOk2 (gN x st)
  | ⟨k, at_, S, nm, f4, f5, b, l⟩, st, hs, h => by
    rw [gN]
    by_cases h0 : k = 0
    · rw [if_pos h0]; exact h.emit _
    rw [if_neg h0]
    by_cases h1 : k = 1
    · rw [if_pos h1]; exact h.emit ⟨1, e0, nm, false, rdOf 0 st.left 0, 0⟩
    rw [if_neg h1]
    by_cases h2 : k = 2
    · rw [if_pos h2]
      cases f5
      · rw [if_neg (by decide)]
        exact (gL_kok b _ hs.2.1 (h.emit _)).land _
      · rw [if_pos rfl]
        exact (gL_kok l _ hs.2.2 (((gL_kok b _ hs.2.1 (h.emit _)).emit _).land _)).land _
    rw [if_neg h2]
    by_cases h3 : k = 3
    · rw [if_pos h3]; exact ((gL_kok b _ hs.2.1 (h.emit _)).emit _).land _
    rw [if_neg h3]
    by_cases h4 : k = 4
    · rw [if_pos h4]
      intro q hq
      rcases List.mem_append.1 hq with hq | hq
      · exact (h.emit ⟨6, e0, nm, f4, 0, 0⟩) q hq
      · rw [List.mem_singleton] at hq
        subst hq
        exact ⟨st.code.length, rfl, by simp, hs.1⟩
    rw [if_neg h4]
    by_cases h5 : k = 5
    · rw [if_pos h5]; exact h.emit _
    rw [if_neg h5]; exact h
end
theorem KOk2.left {st : KS} (h : KOk2 st) (es : List Int) : KOk2 ⟨st.code, es, st.calls⟩ := h
theorem topS_kok : ∀ (l : List S78) (es : List Int) (st : KS), smL l → KOk2 st → KOk2 (topS l es st)
  | [], es, st, _, h => h
  | x :: xs, es, st, hs, h => by
    rw [topS]
    refine topS_kok xs _ _ hs.2 ?_
    split
    · exact h
    · exact gN_kok x _ hs.1 (h.left _)
theorem defS_kok : ∀ (l : List S78) (es : List Int) (st : KS) (ad : List (ByteArray × Int)), smL l → KOk2 st → KOk2 (defS l es st ad).1
  | [], es, st, ad, _, h => h
  | x :: xs, es, st, ad, hs, h => by
    rw [defS]
    split
    · have hx : smL x.f6 := by have := hs.1; cases x; simp only [smN] at this; exact this.2.1
      exact defS_kok xs _ _ _ hs.2 ((gL_kok x.f6 _ hx (h.left _)).emit _)
    · exact defS_kok xs _ _ _ hs.2 h
theorem code_kok {l : List S78} (es : List Int) (hs : smL l) : KOk2 (defS l es ((topS l es ⟨[], [], []⟩).emit ⟨9, e0, e0, false, 0, 0⟩) []).1 :=
  defS_kok l es _ _ hs ((topS_kok l es _ hs (fun q hq => by cases hq)).emit _)
end Go.Proofs.YtkpnfejfbmandaaDoor.Px
