import Derived.Test.YtkpnfejfbmandaaDoorCU16
import Derived.Test.YtkpnfejfbmandaaDoorCU2
import Derived.Test.YtkpnfejfbmandaaDoorCSM0
import Derived.ChangeArms
import Derived.Deep.Slices
import Derived.Deep.Fields
import Derived.DataReads
import Derived.SizedLaws
import Derived.Test.YtkpnfejfbmandaaDoorCSM6
import Derived.Test.YtkpnfejfbmandaaDoorCU24
import Derived.Test.YtkpnfejfbmandaaDoorCU22
import Derived.Test.YtkpnfejfbmandaaDoorCU21
import Derived.Test.YtkpnfejfbmandaaDoorCU20
import Derived.Test.YtkpnfejfbmandaaDoorCU18
import Derived.Test.YtkpnfejfbmandaaDoorCU17
import Derived.Test.YtkpnfejfbmandaaDoorCU15
import Derived.Test.YtkpnfejfbmandaaDoorCU13
import Derived.Test.YtkpnfejfbmandaaDoorCU8
import Derived.Test.YtkpnfejfbmandaaDoorCU7
import Derived.Test.YtkpnfejfbmandaaDoorCU6
import Derived.Test.YtkpnfejfbmandaaDoorCU4
import Derived.Shelf.Strings.Builder1
import Derived.Shelf.Strings.Builder2
import Derived.Shelf.Strings.OnBuilder
import Derived.Shelf.Small.Strs
import Derived.Shelf.Small.Wraps
import Derived.Shelf.Strings.BuilderF
import Derived.Shelf.Strings.BuilderK
import Derived.Shelf.Utf8.RuneCount
import Derived.Shelf.Strings.Builder2Cap
import Derived.Shelf.Strings.Search1
import Derived.Shelf.Strings.Search2
import Derived.Shelf.Strings.Search3
import Derived.Shelf.Strings.Cut
import Derived.Shelf.Strings.Count
import Derived.Shelf.LaysM
import Derived.Shelf.Strings.Shaped
import Derived.Shelf.Strings.Prefix
import Derived.Shelf.Strings.Split
import Derived.Shelf.Strings.SplitShaped
import Derived.Shelf.Unicode.Decode
import Derived.Shelf.Strings.RuneCount
import Derived.Shelf.Strings.Explode
import Derived.Shelf.Bits.Mul64
import Derived.Shelf.Strings.Repeat
import Derived.Shelf.Unicode.DecodeSlow
import Derived.Shelf.Unicode.DecodeAny
import Derived.Shelf.Strings.FieldsFuncAny
import Derived.Shelf.Strings.FieldsFuncGrows
import Derived.Shelf.Strings.BuilderCap
import Derived.Test.YtkpnfejfbmandaaDoorProg
import Derived.WalkLawsBesides
import Derived.StillTailTactics
import Derived.Outline
import Derived.Test.YtkpnfejfbmandaaDoorCU3
import Derived.Maps.RangeWalk
import Derived.Lib.FieldsP
import Derived.Lib.Split
import Derived.Lib.IndexMore
import Derived.Lib.DecodeN
import Derived.Test.YtkpnfejfbmandaaDoorCU12
import Derived.Test.YtkpnfejfbmandaaDoorCU10
import Derived.Test.YtkpnfejfbmandaaDoorCU9
import Derived.Test.YtkpnfejfbmandaaDoorCU5
import Derived.Laws.RangeString
import Derived.Laws.RangeAny
import Derived.Deep.RegionHeld
import Derived.Deep.RegionWith
import Derived.WalkMore
import Derived.Shelf.Abstract
import Derived.WalkSmall
import Derived.RegionDies
import Derived.Defers
import Derived.Recover
import Derived.Test.YtkpnfejfbmandaaDoorCU11
import Derived.Test.YtkpnfejfbmandaaDoorCSM3
import Derived.Maps.OwnSet
import Derived.Maps.OwnOps
import Derived.Test.YtkpnfejfbmandaaDoorCU14
import Derived.Laws.EntriesVeiled
import Derived.Great.Walk
import Derived.Test.YtkpnfejfbmandaaDoorCU19
import Derived.Test.YtkpnfejfbmandaaDoorCU23
/- A list of instructions that came in, opened. -/
namespace Go.Proofs.YtkpnfejfbmandaaDoor.Px
open Go.RowKit Go.ChangeShapes Go.WideShapes Go.Proofs.YtkpnfejfbmandaaDoorW.PrintWords Go.Proofs.YtkpnfejfbmandaaDoorW.PrintLast Go.Proofs.YtkpnfejfbmandaaDoorW.PrintMore
set_option linter.unusedVariables false
set_option linter.unusedSimpArgs false
theorem list_of {α : Type} {P : Nat → α → Prop} : ∀ (n : Nat), (∀ i, i < n → ∃ x, P i x) → ∃ l : List α, l.length = n ∧ ∀ i x, l[i]? = some x → P i x
  | 0, _ => ⟨[], rfl, fun i x h => by simp at h⟩
  | n + 1, h => by
    obtain ⟨l, hl, hp⟩ := list_of n (fun i hi => h i (by omega))
    obtain ⟨x, hx⟩ := h n (by omega)
    refine ⟨l ++ [x], by simp [hl], fun i y hy => ?_⟩
    rw [List.getElem?_append] at hy
    split at hy
    · exact hp i y hy
    · rename_i hlt
      have : i = n := by
        have := (List.getElem?_eq_some_iff.1 hy).1
        simp at this; omega
      subst this
      rw [hl] at hy
      simp at hy
      rw [← hy]; exact hx
theorem cells40 : Tryd.prog.cellsOf 40 = 6 := by kernel_rfl
section
variable {H : Type} {enc : TypeId × Value → H} {w : World} {base : Nat} {spare : Nat → Bool} {held : Bool}
def InsIn (w : World) (cs : List Value) (d : DataW H) : Prop := ∃ (A : Option Addr) (l : List S40) (c : Nat), cs = [.slice A l.length c] ∧ l.length ≤ c ∧ Kd.C k40 w A l.length l ∧ ∀ x ∈ l, x.f1.size ∈ d.weights Tryd.prog 30 ∧ x.f2.size ∈ d.weights Tryd.prog 30
theorem w40 (parts : List (DataW H)) (j : Nat) (hj : j = 1 ∨ j = 2) (b : List UInt8) (hd : parts[j]? = some (.lit (.string b))) : b.length ∈ (DataW.agg parts).weights Tryd.prog 40 := by
  have hu := Tryd.underlying40
  unfold DataW.weights
  rw [hu]
  refine DataW.weights_mem_each (t := 9) ?_ hd _ (by simp [DataW.weights])
  rcases hj with rfl | rfl <;> rfl
theorem weights_all {P : Program} {e : TypeId} {n : Nat} : ∀ {ds : List (DataW H)} {d : DataW H}, d ∈ ds → n ∈ d.weights P e → n ∈ DataW.weightsAll P e ds
  | d0 :: ds, d, h, hn => by
    rw [DataW.weightsAll, List.mem_append]
    rcases List.mem_cons.1 h with rfl | h
    · exact .inl hn
    · exact .inr (weights_all h hn)
set_option maxRecDepth 100000 in
theorem open_in1 {n : Nat} (cs : List Value) (y : DataW H × List MemPlace)
    (h : DataW.trod enc Tryd.prog w base spare held n 40 cs = some y) : cs.length = 6 ∧ ∃ x : S40, k40.K w x cs ∧ x.f1.size ∈ y.1.weights Tryd.prog 40 ∧ x.f2.size ∈ y.1.weights Tryd.prog 40 := by
  obtain ⟨xs, m, rfl, hy, hlen, hxl, hf⟩ := DataW.trod_struct Tryd.underlying40 h
  rw [cells40] at hlen
  refine ⟨hlen, ?_⟩
  match cs, hlen with
  | [c0, c1, c2, c3, c4, c5], _ =>
    have hg : ∀ j, j < 6 → ∃ z, xs[j]? = some z := fun j hj => ⟨_, List.getElem?_eq_getElem (by rw [hxl]; exact hj)⟩
    obtain ⟨z0, e0⟩ := hg 0 (by decide)
    obtain ⟨z1, e1⟩ := hg 1 (by decide)
    obtain ⟨z2, e2⟩ := hg 2 (by decide)
    obtain ⟨z3, e3⟩ := hg 3 (by decide)
    obtain ⟨z4, e4⟩ := hg 4 (by decide)
    obtain ⟨z5, e5⟩ := hg 5 (by decide)
    have t0 : DataW.trod enc Tryd.prog w base spare held m 3 [c0] = some z0 := (hf 0 _ rfl).trans e0
    have t1 : DataW.trod enc Tryd.prog w base spare held m 9 [c1] = some z1 := (hf 1 _ rfl).trans e1
    have t2 : DataW.trod enc Tryd.prog w base spare held m 9 [c2] = some z2 := (hf 2 _ rfl).trans e2
    have t3 : DataW.trod enc Tryd.prog w base spare held m 4 [c3] = some z3 := (hf 3 _ rfl).trans e3
    have t4 : DataW.trod enc Tryd.prog w base spare held m 3 [c4] = some z4 := (hf 4 _ rfl).trans e4
    have t5 : DataW.trod enc Tryd.prog w base spare held m 3 [c5] = some z5 := (hf 5 _ rfl).trans e5
    obtain ⟨i0, r0, _, _⟩ := DataW.trod_int Tryd.underlying3 t0
    obtain ⟨s1, r1, u1, _⟩ := DataW.trod_string Tryd.underlying9 t1
    obtain ⟨s2, r2, u2, _⟩ := DataW.trod_string Tryd.underlying9 t2
    obtain ⟨b3, r3, _⟩ := DataW.trod_bool Tryd.underlying4 t3
    obtain ⟨i4, r4, _, _⟩ := DataW.trod_int Tryd.underlying3 t4
    obtain ⟨i5, r5, _, _⟩ := DataW.trod_int Tryd.underlying3 t5
    simp only [List.cons.injEq, and_true] at r0 r1 r2 r3 r4 r5
    subst r0 r1 r2 r3 r4 r5
    refine ⟨⟨i0, s1, s2, b3, i4, i5⟩, k40_mk w ⟨i0, s1, s2, b3, i4, i5⟩, ?_, ?_⟩
    · rw [hy]
      have := w40 (xs.map (·.1)) 1 (.inl rfl) s1.data.toList (by rw [List.getElem?_map, e1, u1]; rfl)
      simpa using this
    · rw [hy]
      have := w40 (xs.map (·.1)) 2 (.inr rfl) s2.data.toList (by rw [List.getElem?_map, e2, u2]; rfl)
      simpa using this
theorem open_ins (fuel : Nat) (cs : List Value) (x : DataW H × List MemPlace) (h : DataW.trod enc Tryd.prog w base spare held fuel 30 cs = some x) : InsIn w cs x.1 := by
  rcases DataW.trod_slice Tryd.underlying30 h with ⟨rfl, _⟩ | ⟨a, len, cap, elems, rest, n, hn, rfl, hx, hb, hl, hm, hel, hi, _⟩
  · exact ⟨none, [], 0, rfl, Nat.le_refl _, ⟨rfl, Nat.zero_le _, fun h => absurd h (Nat.lt_irrefl 0)⟩, fun x hx => by cases hx⟩
  · have hel1 : ∀ i, i < len → ∃ p : S40, (∃ c, c.length = 6 ∧ k40.K w p c ∧ ∀ j u, c[j]? = some u → w.cell? (a.add (i * 6 + j)) = some u) ∧ p.f1.size ∈ x.1.weights Tryd.prog 30 ∧ p.f2.size ∈ x.1.weights Tryd.prog 30 := fun i hi' => by
      have h1 := hi i hi'
      rw [cells40, List.getElem?_eq_getElem (by rw [hel]; exact hi')] at h1
      obtain ⟨c, hc, ht⟩ := Option.bind_eq_some_iff.1 h1
      obtain ⟨_, hcl, hcell⟩ := World.cells?_some hc
      obtain ⟨h8, p, hp, hw1, hw2⟩ := open_in1 c _ ht
      have hwt : ∀ q, q ∈ (elems[i]'(by rw [hel]; exact hi')).1.weights Tryd.prog 40 → q ∈ x.1.weights Tryd.prog 30 := fun q hq => by
        have hu := Tryd.underlying30
        rw [hx]
        unfold DataW.weights
        rw [hu]
        refine List.mem_cons_of_mem _ (List.mem_append_left _ (weights_all (List.mem_map_of_mem (List.getElem_mem _)) hq))
      refine ⟨p, ⟨c, h8, hp, fun j u hu => ?_⟩, hwt _ hw1, hwt _ hw2⟩
      have hj : j < 6 := by have := (List.getElem?_eq_some_iff.1 hu).1; omega
      rw [← Go.Deep.add_add, hcell j hj, hu]
    obtain ⟨l, hll, hP⟩ := list_of len hel1
    refine ⟨some a, l, cap, by rw [hll], by omega, ⟨rfl, by rw [hll]; have := hm; unfold maxLen at this; omega, fun _ => ⟨a, rfl, fun j p hj => ?_⟩⟩, fun p hp => ?_⟩
    · obtain ⟨⟨c, h8, hk, hc⟩, _⟩ := hP j p hj
      exact ⟨c, h8, hk, hc⟩
    · obtain ⟨j, hj⟩ := List.mem_iff_getElem?.1 hp
      exact (hP j p hj).2
end
end Go.Proofs.YtkpnfejfbmandaaDoor.Px
namespace Go.Proofs.YtkpnfejfbmandaaDoor.Px
open Go.RowKit Go.Proofs.YtkpnfejfbmandaaDoorW.PrintWords Go.Proofs.YtkpnfejfbmandaaDoorW.PrintLast Go.Proofs.YtkpnfejfbmandaaDoorW.PrintMore
set_option linter.unusedVariables false
set_option linter.unusedSimpArgs false
set_option maxHeartbeats 1000000 in
set_option maxRecDepth 100000 in
theorem checkref_walk (C : List S40) (A : Option Addr) (c : Nat) (w : World) (hG : GF w) (hC : Kd.C k40 w A C.length C) (hs : ∀ x ∈ C, x.f1.size ≤ 140737488351232 ∧ x.f2.size ≤ 140737488351232) :
    Calls Tryd.prog 6 #[.slice A C.length c] w fun e w' => e = .returned (.bool true) ∧ Below w.heap.size w w' := by
  have hC63 : C.length ≤ 9223372036854775807 := hC.2.1
  have hal := Aside0.mk (fun W (hB : Below w.heap.size w W) => alive17_any W (hG.g.below hB))
  have hck := Aside0.mk (fun W (hB : Below w.heap.size w W) hz => checks_any C A c W (hG.g.below hB).g (hG.f.below hB) (Kd.C_below hC hB) hz)
  have hrk := Aside0.mk (fun W (hB : Below w.heap.size w W) hz => rchecks_any C A c W (Kd.C_below hC hB) hz)
  replace hC := Aside0.mk hC
  replace hs := Aside0.mk hs
  clear hG
  go_enter Tryd.func6, Tryd.ntmps6
  go_wp2
  go_loopg [11] C.length (fun kq v11 wr => ∃ i : Nat, kq + i = C.length ∧ v11 = .int .i64 i ∧ Aside0 (∀ j (h : j < C.length), j < i → C[j].f2.size ≤ 65536) ∧ Aside0 (Below w.heap.size w wr))
  case atStart => exact ⟨0, rfl, rfl, ⟨fun j _ h => absurd h (Nat.not_lt_zero _)⟩, ⟨Below.refl _ _⟩⟩
  case round =>
    obtain ⟨i, hki, rfl, HJ, HB⟩ := hrel
    by_cases hlt2 : i < C.length
    · have hll : decide ((i : Int) < (C.length : Int)) = true := decide_eq_true (by omega)
      obtain ⟨ad, hA, x0, x1, x2, x3, x4, x5⟩ := at_T40 hC.out (i : Int) (by omega) (by omega)
      have hrd : rd_T40 C (i : Int) = C[i] := by unfold rd_T40; simp [List.getD, hlt2]
      simp only [Int.toNat_natCast] at x0 x1 x2 x3 x4 x5
      rw [hrd] at x0 x1 x2 x3 x4 x5
      obtain ⟨s1, s2⟩ := hs.out _ (List.getElem_mem hlt2)
      have hnext : C[i].f2.size ≤ 65536 → ∀ j (h : j < C.length), j < i + 1 → C[j].f2.size ≤ 65536 := fun hp j h hj => by
        by_cases e : j = i
        · subst e; exact hp
        · exact HJ.out j h (by omega)
      have up : ∀ {a : Addr} {u : Value}, w.cell? a = some u → wr.cell? a = some u := fun h => (HB.out.cell (World.block_lt_of_cell? _ _ h)).trans h
      subst hA
      have hab := World.block_lt_of_cell? _ _ (up x0)
      replace x0 := up x0
      replace x1 := up x1
      replace x2 := up x2
      replace x3 := up x3
      replace x4 := up x4
      replace x5 := up x5
      replace hnext := Aside0.mk hnext
      clear up hrd
      generalize C[i] = x at *
      have hwr : IntKind.i64.wrap ((x.f1.size : Int) + (x.f2.size : Int)) = ((x.f1.size + x.f2.size : Nat) : Int) := by rw [wrap64_i64, w64 (by omega) (by omega)]; omega
      have hwr2 : wrap64 ((x.f1.size : Int) + (x.f2.size : Int)) = ((x.f1.size + x.f2.size : Nat) : Int) := by rw [w64 (by omega) (by omega)]; omega
      by_cases hl : 1000 < C.length
      · have h1 : decide ((1000 : Int) < (C.length : Int)) = true := decide_eq_true (by omega)
        go_wp2_with (go_at_call 14; refine (hal.out _ (below_alloc HB.out _)).mono ?_; rintro ee w3 ⟨rfl, HB3⟩; replace HB3 := Aside0.mk (below_step (below_alloc HB.out _) HB3))
        go_ret
        exact ⟨rfl, HB3.out⟩
      have h1 : decide ((1000 : Int) < (C.length : Int)) = false := decide_eq_false (by omega)
      by_cases hz : 1000 < x.f1.size + x.f2.size
      · have h2 : decide ((1000 : Int) < ((x.f1.size + x.f2.size : Nat) : Int)) = true := decide_eq_true (by omega)
        have h3 : decide ((1000 : Int) < (x.f1.size : Int) + (x.f2.size : Int)) = true := decide_eq_true (by omega)
        go_wp2_with (go_at_call 14; refine (hal.out _ (below_alloc HB.out _)).mono ?_; rintro ee w3 ⟨rfl, HB3⟩; replace HB3 := Aside0.mk (below_step (below_alloc HB.out _) HB3))
        go_ret
        exact ⟨rfl, HB3.out⟩
      · have h2 : decide ((1000 : Int) < ((x.f1.size + x.f2.size : Nat) : Int)) = false := decide_eq_false (by omega)
        have h3 : decide ((1000 : Int) < (x.f1.size : Int) + (x.f2.size : Int)) = false := decide_eq_false (by omega)
        have hn := Aside0.mk (hnext.out (by omega))
        clear hnext
        go_wp2_with fail
        go_roundg (gk - 1)
        case measure => omega
        case rel => exact ⟨i + 1, by omega, by simp, hn, ⟨below_alloc HB.out _⟩⟩
    · have hll : decide ((i : Int) < (C.length : Int)) = false := decide_eq_false (by omega)
      have hz := Aside0.mk (show ∀ x ∈ C, x.f2.size ≤ 65536 from fun x hx => by
        obtain ⟨j, hj, rfl⟩ := List.getElem_of_mem hx
        exact HJ.out j hj (by omega))
      go_wp2_with (first | (go_at_call 18; refine (hck.out _ HB.out hz.out).mono ?_; rintro ee w3 ⟨rfl, HB3⟩; replace HB3 := Aside0.mk (below_step HB.out HB3)) | (go_at_call 19; refine (hrk.out _ HB3.out hz.out).mono ?_; rintro ee w4 ⟨rfl, HB4⟩; replace HB4 := Aside0.mk (below_step HB3.out HB4)) | (go_at_call 14; refine (hal.out _ HB4.out).mono ?_; rintro ee w5 ⟨rfl, HB5⟩; replace HB5 := Aside0.mk (below_step HB4.out HB5)))
      go_ret
      exact ⟨by simp, HB5.out⟩
theorem checkref_in {H : Type} {d : Go.DataW H} (w : World) (hG : GF w) {a : Option Addr} {len cap : Nat} (h : InsIn w [.slice a len cap] d) (hw : ∀ n ∈ d.weights Tryd.prog 30, n ≤ 140737488351232) :
    Calls Tryd.prog 6 #[.slice a len cap] w fun e w' => e = .returned (.bool true) ∧ Below w.heap.size w w' := by
  obtain ⟨A, C, c, e, hc, hC, hs⟩ := h
  simp only [List.cons.injEq, and_true, Value.slice.injEq] at e
  obtain ⟨rfl, rfl, rfl⟩ := e
  exact checkref_walk C _ _ w hG hC (fun x hx => ⟨hw _ (hs x hx).1, hw _ (hs x hx).2⟩)
end Go.Proofs.YtkpnfejfbmandaaDoor.Px
