/- A list of nodes that came in, opened. -/
import Derived.Test.YtgdpojleejdfaaaDoorPORe
import Derived.ChangeArms
import Derived.Deep.Slices
import Derived.Deep.Fields
import Derived.DataReads
namespace Go.Proofs.YtgdpojleejdfaaaDoor.Px
open Go.RowKit Go.ChangeShapes Go.WideShapes Go.Proofs.YtgdpojleejdfaaaDoorW.PrintWords Go.Proofs.YtgdpojleejdfaaaDoorW.PrintLast Go.Proofs.YtgdpojleejdfaaaDoorW.PrintMore
set_option linter.unusedVariables false
set_option linter.unusedSimpArgs false

theorem k39_mk (w : World) (x : S39) {A6 : Option Addr} {c6 : Nat} (l6 : x.f6.length ≤ c6) (g6 : k39.C w A6 x.f6.length x.f6) {A7 : Option Addr} {c7 : Nat} (l7 : x.f7.length ≤ c7) (g7 : k39.C w A7 x.f7.length x.f7) : k39.K w x [.int .i64 x.f0, .int .i64 x.f1, .string x.f2, .string x.f3, .bool x.f4, .bool x.f5, .slice A6 x.f6.length c6, .slice A7 x.f7.length c7] := by
  obtain ⟨n6, q6⟩ := Kd.fix_C_back mono39 g6
  obtain ⟨n7, q7⟩ := Kd.fix_C_back mono39 g7
  have r6 := Kd.upto_C_le mono39 sz39 (show n6 ≤ (max n6 n7) by omega) q6
  have r7 := Kd.upto_C_le mono39 sz39 (show n7 ≤ (max n6 n7) by omega) q7
  exact ⟨(max n6 n7) + 1, ⟨[.int .i64 x.f0], [.int .i64 x.f1, .string x.f2, .string x.f3, .bool x.f4, .bool x.f5, .slice A6 x.f6.length c6, .slice A7 x.f7.length c7], rfl, rfl, ⟨[.int .i64 x.f1], [.string x.f2, .string x.f3, .bool x.f4, .bool x.f5, .slice A6 x.f6.length c6, .slice A7 x.f7.length c7], rfl, rfl, ⟨[.string x.f2], [.string x.f3, .bool x.f4, .bool x.f5, .slice A6 x.f6.length c6, .slice A7 x.f7.length c7], rfl, rfl, ⟨[.string x.f3], [.bool x.f4, .bool x.f5, .slice A6 x.f6.length c6, .slice A7 x.f7.length c7], rfl, rfl, ⟨[.bool x.f4], [.bool x.f5, .slice A6 x.f6.length c6, .slice A7 x.f7.length c7], rfl, rfl, ⟨[.bool x.f5], [.slice A6 x.f6.length c6, .slice A7 x.f7.length c7], rfl, rfl, ⟨[.slice A6 x.f6.length c6], [.slice A7 x.f7.length c7], rfl, ⟨A6, c6, rfl, l6, r6⟩, ⟨A7, c7, rfl, l7, r7⟩⟩⟩⟩⟩⟩⟩⟩⟩
theorem list_of {α : Type} {P : Nat → α → Prop} : ∀ (n : Nat), (∀ i, i < n → ∃ x, P i x) → ∃ l : List α, l.length = n ∧ ∀ i x, l[i]? = some x → P i x
  | 0, _ => ⟨[], rfl, fun i x h => by simp at h⟩
  | n + 1, h => by
    obtain ⟨l, hl, hp⟩ := list_of n (fun i hi => h i (by omega))
    obtain ⟨x, hx⟩ := h n (by omega)
    refine ⟨l ++ [x], by simp [hl], fun i y hy => ?_⟩
    rw [List.getElem?_append] at hy
    split at hy
    · exact hp i y hy
    · rename_i hlt
      have : i = n := by
        have := (List.getElem?_eq_some_iff.1 hy).1
        simp at this; omega
      subst this
      rw [hl] at hy
      simp at hy
      rw [← hy]; exact hx
theorem cells39 : Tryd.prog.cellsOf 39 = 8 := by kernel_rfl
section
variable {H : Type} {enc : TypeId × Value → H} {w : World} {base : Nat} {spare : Nat → Bool} {held : Bool}
/-- What a slice of nodes reads as. -/
def NodesIn (w : World) (cs : List Value) : Prop := ∃ (A : Option Addr) (l : List S39) (c : Nat), cs = [.slice A l.length c] ∧ l.length ≤ c ∧ Kd.C k39 w A l.length l
set_option maxRecDepth 100000 in
theorem open_node {n : Nat} (ih : ∀ m, m < n → ∀ (cs : List Value) (x : DataW H × List MemPlace), DataW.trod enc Tryd.prog w base spare held m 32 cs = some x → NodesIn w cs) (cs : List Value) (y : DataW H × List MemPlace)
    (h : DataW.trod enc Tryd.prog w base spare held n 39 cs = some y) : cs.length = 8 ∧ ∃ x : S39, k39.K w x cs := by
  obtain ⟨xs, m, rfl, _, hlen, hxl, hf⟩ := DataW.trod_struct Tryd.underlying39 h
  rw [cells39] at hlen
  refine ⟨hlen, ?_⟩
  match cs, hlen with
  | [c0, c1, c2, c3, c4, c5, c6, c7], _ =>
    have hg : ∀ j, j < 8 → ∃ z, xs[j]? = some z := fun j hj => ⟨_, List.getElem?_eq_getElem (by rw [hxl]; exact hj)⟩
    obtain ⟨z0, e0⟩ := hg 0 (by decide)
    obtain ⟨z1, e1⟩ := hg 1 (by decide)
    obtain ⟨z2, e2⟩ := hg 2 (by decide)
    obtain ⟨z3, e3⟩ := hg 3 (by decide)
    obtain ⟨z4, e4⟩ := hg 4 (by decide)
    obtain ⟨z5, e5⟩ := hg 5 (by decide)
    obtain ⟨z6, e6⟩ := hg 6 (by decide)
    obtain ⟨z7, e7⟩ := hg 7 (by decide)
    have t0 : DataW.trod enc Tryd.prog w base spare held m 3 [c0] = some z0 := (hf 0 _ rfl).trans e0
    have t1 : DataW.trod enc Tryd.prog w base spare held m 3 [c1] = some z1 := (hf 1 _ rfl).trans e1
    have t2 : DataW.trod enc Tryd.prog w base spare held m 9 [c2] = some z2 := (hf 2 _ rfl).trans e2
    have t3 : DataW.trod enc Tryd.prog w base spare held m 9 [c3] = some z3 := (hf 3 _ rfl).trans e3
    have t4 : DataW.trod enc Tryd.prog w base spare held m 4 [c4] = some z4 := (hf 4 _ rfl).trans e4
    have t5 : DataW.trod enc Tryd.prog w base spare held m 4 [c5] = some z5 := (hf 5 _ rfl).trans e5
    have t6 : DataW.trod enc Tryd.prog w base spare held m 32 [c6] = some z6 := (hf 6 _ rfl).trans e6
    have t7 : DataW.trod enc Tryd.prog w base spare held m 32 [c7] = some z7 := (hf 7 _ rfl).trans e7
    obtain ⟨i0, r0, _, _⟩ := DataW.trod_int Tryd.underlying3 t0
    obtain ⟨i1, r1, _, _⟩ := DataW.trod_int Tryd.underlying3 t1
    obtain ⟨s2, r2, _, _⟩ := DataW.trod_string Tryd.underlying9 t2
    obtain ⟨s3, r3, _, _⟩ := DataW.trod_string Tryd.underlying9 t3
    obtain ⟨b4, r4, _⟩ := DataW.trod_bool Tryd.underlying4 t4
    obtain ⟨b5, r5, _⟩ := DataW.trod_bool Tryd.underlying4 t5
    obtain ⟨A6, l6, k6, r6, q6, g6⟩ := ih m (by omega) _ _ t6
    obtain ⟨A7, l7, k7, r7, q7, g7⟩ := ih m (by omega) _ _ t7
    simp only [List.cons.injEq, and_true] at r0 r1 r2 r3 r4 r5 r6 r7
    subst r0 r1 r2 r3 r4 r5 r6 r7
    exact ⟨⟨i0, i1, s2, s3, b4, b5, l6, l7⟩, k39_mk w ⟨i0, i1, s2, s3, b4, b5, l6, l7⟩ q6 g6 q7 g7⟩
theorem open_nodes : ∀ (fuel : Nat) (cs : List Value) (x : DataW H × List MemPlace), DataW.trod enc Tryd.prog w base spare held fuel 32 cs = some x → NodesIn w cs := by
  intro fuel
  induction fuel using Nat.strongRecOn with
  | _ fuel ih =>
    intro cs x h
    rcases DataW.trod_slice Tryd.underlying32 h with ⟨rfl, _⟩ | ⟨a, len, cap, elems, rest, n, hn, rfl, _, hb, hl, hm, hel, hi, _⟩
    · exact ⟨none, [], 0, rfl, Nat.le_refl _, rfl, Nat.zero_le _, fun h => absurd h (Nat.lt_irrefl 0)⟩
    · have hel1 : ∀ i, i < len → ∃ p : S39, ∃ c, c.length = 8 ∧ k39.K w p c ∧ ∀ j u, c[j]? = some u → w.cell? (a.add (i * 8 + j)) = some u := fun i hi' => by
        have h1 := hi i hi'
        rw [cells39, List.getElem?_eq_getElem (by rw [hel]; exact hi')] at h1
        obtain ⟨c, hc, ht⟩ := Option.bind_eq_some_iff.1 h1
        obtain ⟨_, hcl, hcell⟩ := World.cells?_some hc
        obtain ⟨h8, p, hp⟩ := open_node (fun m hm => ih m (by omega)) c _ ht
        refine ⟨p, c, h8, hp, fun j u hu => ?_⟩
        have hj : j < 8 := by have := (List.getElem?_eq_some_iff.1 hu).1; omega
        rw [← Go.Deep.add_add, hcell j hj, hu]
      obtain ⟨l, hll, hP⟩ := list_of len hel1
      refine ⟨some a, l, cap, by rw [hll], by omega, rfl, by rw [hll]; have := hm; unfold maxLen at this; omega, fun _ => ⟨a, rfl, fun j p hj => ?_⟩⟩
      obtain ⟨c, h8, hk, hc⟩ := hP j p hj
      exact ⟨c, h8, hk, hc⟩
end
end Go.Proofs.YtgdpojleejdfaaaDoor.Px
