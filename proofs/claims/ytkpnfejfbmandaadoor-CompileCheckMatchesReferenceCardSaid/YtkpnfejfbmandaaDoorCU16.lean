import Derived.Test.YtkpnfejfbmandaaDoorCU14
import Derived.StillTailTactics
import Derived.Outline
import Derived.Test.YtkpnfejfbmandaaDoorCU2
import Derived.Test.YtkpnfejfbmandaaDoorCU15
import Derived.Great.Walk
/- infer.Infer. -/
namespace Go.Proofs.YtkpnfejfbmandaaDoor.Px
open Go.RowKit Go.Proofs.YtkpnfejfbmandaaDoorW.PrintWords Go.Proofs.YtkpnfejfbmandaaDoorW.PrintLast Go.Proofs.YtkpnfejfbmandaaDoorW.PrintMore
set_option linter.unusedVariables false
set_option linter.unusedSimpArgs false
/-- What Infer answers. -/
def inferE (l : List S78) : IS := if h : l = [] then (iL l hz ([], 0, 0)).2 else expI (iL l hz ([], 0, 0)).2 (l.getLast h).f1 (iL l hz ([], 0, 0)).1 hz 16
def inferF (l : List S78) : IS := if (inferE l).2.2 = 0 then ((inferE l).1, 0, 0) else ([], (inferE l).2.1, (inferE l).2.2)
set_option maxHeartbeats 4000000 in
set_option maxRecDepth 100000 in
theorem infer_any (l : List S78) (A : Option Addr) (c : Nat) (w : World) (hC : Kd.C k78 w A l.length l) (hc : l.length ≤ c) (hsm : smL l) (hlen : nL l ≤ 1000000) :
    Calls Tryd.prog 17 #[.slice A l.length c] w fun e w' => ∃ v, e = .returned (.tuple #[v, .int .i64 (inferF l).2.1, .int .i64 (inferF l).2.2]) ∧ Kd.R (Kd.int .i64) 3 w' w.heap.size (fun _ => True) v (inferF l).1 ∧ Below w.heap.size w w' := by
  have hcall := Aside0.mk (fun W (h : AIn w w.heap.size (.slice none 0 0) ([], 0, 0) W) => infer_list l w w.heap.size (.slice none 0 0) ([], 0, 0) ⟨0, ⟨#[]⟩, ⟨#[]⟩, ⟨#[]⟩⟩ A c W h hC hc hz_gd hsm (by simpa using hlen))
  have hS : AIn w w.heap.size (.slice none 0 0) ([], 0, 0) (w.alloc (.cells #[.slice none 0 0, .int .i64 0, .int .i64 0] 86)) := ⟨blk_new _ _, Kd.R_nil _ _ _ _ _, (Below.refl _ _).alloc (Nat.le_refl _) _, Nat.le_refl _⟩
  obtain ⟨r, hr⟩ : ∃ r, r = inferF l := ⟨_, rfl⟩
  rw [← hr]
  unfold inferF inferE at hr
  rw [hzE] at hr
  generalize iL l ⟨0, ⟨#[]⟩, ⟨#[]⟩, ⟨#[]⟩⟩ ([], 0, 0) = R at *
  obtain ⟨sx, tx⟩ := R
  dsimp only at hcall hr
  replace hr := Aside0.mk hr
  replace hC := Aside0.mk hC
  replace hS := Aside0.mk hS
  have hll : l.length ≤ 1000000 := by have := nL_len l; omega
  clear hsm hlen
  go_enter Tryd.func17, Tryd.ntmps17
  go_wp2_with fail
  refine (hcall.out _ hS.out).mono ?_
  rintro e w1 ⟨rfl, v1, h1⟩
  clear hcall
  replace h1 := Aside0.mk h1
  by_cases hn : l = []
  · subst hn
    have hR := hr.out
    rw [dif_pos rfl] at hR
    clear hr
    obtain ⟨e1, e2, e3⟩ := tx
    dsimp only at hR
    obtain ⟨⟨c0, c1, c2⟩, -⟩ := h1.out.st.cells
    dsimp only at c1 c2
    have hl : decide ((0 : Int) < (([] : List S78).length : Int)) = false := rfl
    have hlt1 := blk_lt h1.out.st.blk
    by_cases hE : e3 = 0
    · rw [if_pos hE] at hR
      subst hR
      have hE' : (e3 != 0) = false := by simp [hE]
      replace hE := Aside0.mk hE
      go_wp2
      go_ret3
      exact ⟨_, rfl, Kd.R_mono (h1.out.st.alloc _).own (fun _ _ => trivial), (h1.out.st.alloc _).bel⟩
    · rw [if_neg hE] at hR
      subst hR
      have hE' : (e3 != 0) = true := by simp [hE]
      replace hE := Aside0.mk hE
      go_wp2
      go_quiet (fail)
      go_wp2
      go_ret3
      exact ⟨_, rfl, Kd.R_nil _ _ _ _ _, by repeat (first | exact (h1.out.st.alloc _).bel | apply pw_below_drewN | apply below_drew1)⟩
  · have hpos : 0 < l.length := List.length_pos_iff.2 hn
    have hl : decide ((0 : Int) < (l.length : Int)) = true := decide_eq_true (by omega)
    obtain ⟨m, hm⟩ : ∃ m, l.length = m + 1 := ⟨l.length - 1, by omega⟩
    have hw1 : IntKind.i64.wrap ((l.length : Int) - 1) = (m : Int) := by rw [IntKind.wrap_i64]; omega
    have hm0 : (0 : Int) ≤ (m : Int) := by omega
    have hm1 : (m : Int) < (l.length : Int) := by omega
    obtain ⟨ad, A6, c6, A7, c7, rfl, x0, x1, x2, x3, x4, x5, x6, x7, -⟩ := at_T78 hC.out (m : Int) hm0 hm1
    have hrd : rd_T78 l (m : Int) = l.getLast hn := by unfold rd_T78; rw [List.getLast_eq_getElem]; simp [List.getD, hm]
    simp only [Int.toNat_natCast] at x0 x1 x2 x3 x4 x5 x6 x7
    rw [hrd] at x0 x1 x2 x3 x4 x5 x6 x7
    replace hm := Aside0.mk hm
    have X := Aside0.mk (And.intro x0 (And.intro x1 (And.intro x2 (And.intro x3 (And.intro x4 (And.intro x5 (And.intro x6 x7)))))))
    replace hr := hr.out
    rw [dif_neg hn] at hr
    generalize l.getLast hn = x at *
    have up : ∀ {a : Addr} {u : Value}, w.cell? a = some u → w1.cell? a = some u := fun h => (h1.out.st.bel.cell (World.block_lt_of_cell? _ _ h)).trans h
    have hab := World.block_lt_of_cell? _ _ (up x0)
    have hab0 := World.block_lt_of_cell? _ _ x0
    have b0 := World.block_lt_of_cell? _ _ (up x1)
    replace x0 := up x0
    replace x1 := up x1
    replace x2 := up x2
    replace x3 := up x3
    replace x4 := up x4
    replace x5 := up x5
    replace x6 := up x6
    replace x7 := up x7
    obtain ⟨W2, e2⟩ : ∃ W2, W2 = w1.alloc (.cells #[.int .i64 sx.c, .string sx.n, .string sx.a, .string sx.p] 88) := ⟨_, rfl⟩
    have h2 := Aside0.mk (show AOut w (w.alloc (.cells #[.slice none 0 0, .int .i64 0, .int .i64 0] 86)) w.heap.size (.slice none 0 0) v1 tx W2 from by rw [e2]; exact h1.out.alloc _)
    have hbx := Aside0.mk (show W2.heap[w1.heap.size]? = some (.cells (ag4 sx) 88 (0, 0)) from by rw [e2]; exact blk_new _ _)
    have up2 : ∀ {a : Addr} {u : Value}, w1.cell? a = some u → W2.cell? a = some u := fun h => by rw [e2]; exact pw_cell_below ((Below.refl _ _).alloc (Nat.le_refl _) _) h
    replace x0 := up2 x0
    replace x1 := up2 x1
    replace x2 := up2 x2
    replace x3 := up2 x3
    replace x4 := up2 x4
    replace x5 := up2 x5
    replace x6 := up2 x6
    replace x7 := up2 x7
    have y0 : W2.cell? ⟨w1.heap.size, 0, none⟩ = some (.int .i64 sx.c) := blk_cell hbx.out 0
    have y1 : W2.cell? ⟨w1.heap.size, 1, none⟩ = some (.string sx.n) := blk_cell hbx.out 1
    have y2 : W2.cell? ⟨w1.heap.size, 2, none⟩ = some (.string sx.a) := blk_cell hbx.out 2
    have y3 : W2.cell? ⟨w1.heap.size, 3, none⟩ = some (.string sx.p) := blk_cell hbx.out 3
    have hgl := blk_lt h1.out.st.blk
    replace hr := Aside0.mk hr
    go_upto_region 4 with fail
    rw [← e2]
    clear e2 up up2 hC hS hrd h1
    go_region_held3 (fun w' => w'.cell? (ad.add (m * 8)) = some (.int .i64 x.f0) ∧ w'.cell? ⟨(ad.add (m * 8)).block, (ad.add (m * 8)).off + 1, none⟩ = some (.int .i64 x.f1) ∧ w'.cell? ⟨(ad.add (m * 8)).block, (ad.add (m * 8)).off + 2, none⟩ = some (.string x.f2) ∧ w'.cell? ⟨(ad.add (m * 8)).block, (ad.add (m * 8)).off + 3, none⟩ = some (.string x.f3) ∧ w'.cell? ⟨(ad.add (m * 8)).block, (ad.add (m * 8)).off + 4, none⟩ = some (.bool x.f4) ∧ w'.cell? ⟨(ad.add (m * 8)).block, (ad.add (m * 8)).off + 5, none⟩ = some (.bool x.f5) ∧ w'.cell? ⟨(ad.add (m * 8)).block, (ad.add (m * 8)).off + 6, none⟩ = some (.slice A6 x.f6.length c6) ∧ w'.cell? ⟨(ad.add (m * 8)).block, (ad.add (m * 8)).off + 7, none⟩ = some (.slice A7 x.f7.length c7) ∧ w'.cell? ⟨w1.heap.size, 0, none⟩ = some (.int .i64 sx.c) ∧ w'.cell? ⟨w1.heap.size, 1, none⟩ = some (.string sx.n) ∧ w'.cell? ⟨w1.heap.size, 2, none⟩ = some (.string sx.a) ∧ w'.cell? ⟨w1.heap.size, 3, none⟩ = some (.string sx.p)) (exact ⟨x0, x1, x2, x3, x4, x5, x6, x7, y0, y1, y2, y3⟩) (first | (go_at_call 39; (with_reducible refine (expect_any x.f0 x.f1 x.f2 x.f3 x.f4 x.f5 _ _ sx ⟨0, ⟨#[]⟩, ⟨#[]⟩, ⟨#[]⟩⟩ 16 _ h2.out.st.drew).mono ?_); rintro e w3 ⟨rfl, h3⟩; have h4 := Aside0.mk (h2.out.drew.call h3); have up3 : ∀ {a : Addr} {u : Value}, w.cell? a = some u → w3.cell? a = some u := fun h => (h3.st.bel.cell (World.block_lt_of_cell? _ _ h)).trans h; have hb3 := Aside0.mk (h3.box h2.out.st.drew hbx.out (by decide) (by omega)); clear h3 x0 x1 x2 x3 x4 x5 x6 x7 y0 y1 y2 y3; obtain ⟨x0, x1, x2, x3, x4, x5, x6, x7⟩ := X.out; replace x0 := up3 x0; replace x1 := up3 x1; replace x2 := up3 x2; replace x3 := up3 x3; replace x4 := up3 x4; replace x5 := up3 x5; replace x6 := up3 x6; replace x7 := up3 x7; have y0 : w3.cell? ⟨w1.heap.size, 0, none⟩ = some (.int .i64 sx.c) := blk_cell hb3.out 0; have y1 : w3.cell? ⟨w1.heap.size, 1, none⟩ = some (.string sx.n) := blk_cell hb3.out 1; have y2 : w3.cell? ⟨w1.heap.size, 2, none⟩ = some (.string sx.a) := blk_cell hb3.out 2; have y3 : w3.cell? ⟨w1.heap.size, 3, none⟩ = some (.string sx.p) := blk_cell hb3.out 3))
    clear x0 x1 x2 x3 x4 x5 x6 x7 y0 y1 y2 y3 X
    have hR := hr.out
    clear hr
    generalize expI tx x.f1 sx ⟨0, ⟨#[]⟩, ⟨#[]⟩, ⟨#[]⟩⟩ 16 = E at *
    obtain ⟨e1, e2, e3⟩ := E
    dsimp only at hR
    obtain ⟨⟨c0, c1, c2⟩, -⟩ := h4.out.st.cells
    dsimp only at c1 c2
    by_cases hE : e3 = 0
    · rw [if_pos hE] at hR
      subst hR
      have hE' : (e3 != 0) = false := by simp [hE]
      replace hE := Aside0.mk hE
      go_wp2
      go_ret3
      exact ⟨_, rfl, Kd.R_mono h4.out.st.own (fun _ _ => trivial), h4.out.st.bel⟩
    · rw [if_neg hE] at hR
      subst hR
      have hE' : (e3 != 0) = true := by simp [hE]
      replace hE := Aside0.mk hE
      go_wp2
      go_quiet (fail)
      go_wp2
      go_ret3
      exact ⟨_, rfl, Kd.R_nil _ _ _ _ _, by repeat (first | exact h4.out.st.bel | apply pw_below_drewN | apply below_drew1)⟩
end Go.Proofs.YtkpnfejfbmandaaDoor.Px

/- Kinds of instructions. -/
namespace Go.Proofs.YtkpnfejfbmandaaDoor.Px
open Go.RowKit Go.Proofs.YtkpnfejfbmandaaDoorW.PrintWords Go.Proofs.YtkpnfejfbmandaaDoorW.PrintLast Go.Proofs.YtkpnfejfbmandaaDoorW.PrintMore
set_option linter.unusedVariables false
set_option linter.unusedSimpArgs false
structure S40 where
  f0 : Int
  f1 : ByteArray
  f2 : ByteArray
  f3 : Bool
  f4 : Int
  f5 : Int
def z40 : S40 := ⟨(0 : Int), (⟨#[]⟩ : ByteArray), (⟨#[]⟩ : ByteArray), false, (0 : Int), (0 : Int)⟩
def k40 : Kd S40 := Kd.iso (Kd.pair (Kd.int .i64) (Kd.pair Kd.string (Kd.pair Kd.string (Kd.pair Kd.bool (Kd.pair (Kd.int .i64) (Kd.int .i64)))))) (fun x : S40 => (x.f0, x.f1, x.f2, x.f3, x.f4, x.f5))
theorem k40_open {w : World} {x : S40} {cs : List Value} (h : k40.K w x cs) : cs = [.int .i64 x.f0, .string x.f1, .string x.f2, .bool x.f3, .int .i64 x.f4, .int .i64 x.f5] := by
  obtain ⟨_, _, rfl, rfl, ⟨_, _, rfl, rfl, ⟨_, _, rfl, rfl, ⟨_, _, rfl, rfl, ⟨_, _, rfl, rfl, rfl⟩⟩⟩⟩⟩ := h
  exact rfl
theorem k40_openM {w : World} {base : Nat} {ok : Nat → Prop} {x : S40} {cs : List Value} (h : k40.M w base ok x cs) : cs = [.int .i64 x.f0, .string x.f1, .string x.f2, .bool x.f3, .int .i64 x.f4, .int .i64 x.f5] := by
  obtain ⟨_, _, rfl, rfl, ⟨_, _, rfl, rfl, ⟨_, _, rfl, rfl, ⟨_, _, rfl, rfl, ⟨_, _, rfl, rfl, rfl⟩⟩⟩⟩⟩ := h
  exact rfl
theorem k40_mk (w : World) (x : S40)  : k40.K w x [.int .i64 x.f0, .string x.f1, .string x.f2, .bool x.f3, .int .i64 x.f4, .int .i64 x.f5] := ⟨[.int .i64 x.f0], [.string x.f1, .string x.f2, .bool x.f3, .int .i64 x.f4, .int .i64 x.f5], rfl, rfl, ⟨[.string x.f1], [.string x.f2, .bool x.f3, .int .i64 x.f4, .int .i64 x.f5], rfl, rfl, ⟨[.string x.f2], [.bool x.f3, .int .i64 x.f4, .int .i64 x.f5], rfl, rfl, ⟨[.bool x.f3], [.int .i64 x.f4, .int .i64 x.f5], rfl, rfl, ⟨[.int .i64 x.f4], [.int .i64 x.f5], rfl, rfl, rfl⟩⟩⟩⟩⟩
theorem k40_mkM (w : World) (base : Nat) (ok : Nat → Prop) (x : S40)  : k40.M w base ok x [.int .i64 x.f0, .string x.f1, .string x.f2, .bool x.f3, .int .i64 x.f4, .int .i64 x.f5] := ⟨[.int .i64 x.f0], [.string x.f1, .string x.f2, .bool x.f3, .int .i64 x.f4, .int .i64 x.f5], rfl, rfl, ⟨[.string x.f1], [.string x.f2, .bool x.f3, .int .i64 x.f4, .int .i64 x.f5], rfl, rfl, ⟨[.string x.f2], [.bool x.f3, .int .i64 x.f4, .int .i64 x.f5], rfl, rfl, ⟨[.bool x.f3], [.int .i64 x.f4, .int .i64 x.f5], rfl, rfl, ⟨[.int .i64 x.f4], [.int .i64 x.f5], rfl, rfl, rfl⟩⟩⟩⟩⟩
def rd_T40 (xs : List S40) (i : Int) : S40 := xs.getD i.toNat z40
theorem at_T40 {w : World} {A : Option Addr} {n : Nat} {xs : List S40} (h : Kd.C k40 w A n xs) (i : Int) (h0 : 0 ≤ i) (h1 : i < n) : ∃ ad , A = some ad ∧ w.cell? (ad.add (i.toNat * 6)) = some (.int .i64 (rd_T40 xs i).f0) ∧ w.cell? ⟨(ad.add (i.toNat * 6)).block, (ad.add (i.toNat * 6)).off + 1, none⟩ = some (.string (rd_T40 xs i).f1) ∧ w.cell? ⟨(ad.add (i.toNat * 6)).block, (ad.add (i.toNat * 6)).off + 2, none⟩ = some (.string (rd_T40 xs i).f2) ∧ w.cell? ⟨(ad.add (i.toNat * 6)).block, (ad.add (i.toNat * 6)).off + 3, none⟩ = some (.bool (rd_T40 xs i).f3) ∧ w.cell? ⟨(ad.add (i.toNat * 6)).block, (ad.add (i.toNat * 6)).off + 4, none⟩ = some (.int .i64 (rd_T40 xs i).f4) ∧ w.cell? ⟨(ad.add (i.toNat * 6)).block, (ad.add (i.toNat * 6)).off + 5, none⟩ = some (.int .i64 (rd_T40 xs i).f5) := by
  obtain ⟨ad, c, e, _, hK, hc0⟩ := Kd.C_get h z40 i h0 h1
  have hc : ∀ j u, c[j]? = some u → w.cell? (ad.add (i.toNat * 6 + j)) = some u := hc0
  obtain rfl := k40_open hK
  exact ⟨ad, e, hc 0 _ rfl, by rw [← add_field _ _ 1 (by omega)]; exact hc 1 _ rfl, by rw [← add_field _ _ 2 (by omega)]; exact hc 2 _ rfl, by rw [← add_field _ _ 3 (by omega)]; exact hc 3 _ rfl, by rw [← add_field _ _ 4 (by omega)]; exact hc 4 _ rfl, by rw [← add_field _ _ 5 (by omega)]; exact hc 5 _ rfl⟩
end Go.Proofs.YtkpnfejfbmandaaDoor.Px

/- compile: what it generates; the compiler behind its pointer; emit. -/
namespace Go.Proofs.YtkpnfejfbmandaaDoor.Px
open Go.RowKit Go.Proofs.YtkpnfejfbmandaaDoorW.PrintWords Go.Proofs.YtkpnfejfbmandaaDoorW.PrintLast Go.Proofs.YtkpnfejfbmandaaDoorW.PrintMore
set_option linter.unusedVariables false
set_option linter.unusedSimpArgs false
/-- The code, the escapers that are left, the calls: index and name. -/
structure KS where
  code : List S40
  left : List Int
  calls : List (Int × ByteArray)
/-- The compiler in a world W: its struct at g; its own row of instructions; the escapers that are left, read from what was there in w0. -/
structure KIn (w0 : World) (g b1 b2 : Nat) (v : Value) (code : List S40) (A : Option Addr) (c : Nat) (left : List Int) (W : World) : Prop where
  blk : W.heap[g]? = some (.cells #[v, .map (some b1), .slice A left.length c, .map (some b2)] 122 (0, 0))
  own : Kd.R k40 40 W w0.heap.size (fun k => k ≠ g) v code
  lf : Kd.C (Kd.int .i64) w0 A left.length left
  le : left.length ≤ c
  bel : Below w0.heap.size w0 W
  ge : w0.heap.size ≤ g
/-- Everything but the struct, the row and the block mb is there as it was. -/
def Kp3 (w W : World) (g : Nat) (mb row : Option Nat) : Prop := w.heap.size ≤ W.heap.size ∧ ∀ k, k < w.heap.size → k ≠ g → some k ≠ mb → some k ≠ row → W.heap[k]? = w.heap[k]?
structure KOut (w0 w : World) (g b1 b2 : Nat) (mb : Option Nat) (v0 v : Value) (code : List S40) (A : Option Addr) (c : Nat) (left : List Int) (W : World) : Prop where
  st : KIn w0 g b1 b2 v code A c left W
  keep : Kp3 w W g mb v0.ownBlock
  row : v.ownBlock = v0.ownBlock ∨ v.ownBlock = none ∨ ∃ b, v.ownBlock = some b ∧ w.heap.size ≤ b
theorem Kp3.refl (w : World) (g : Nat) (mb row : Option Nat) : Kp3 w w g mb row := ⟨Nat.le_refl _, fun _ _ _ _ _ => rfl⟩
theorem Kp3.trans {w W W2 : World} {g : Nat} {mb row row1 : Option Nat} (h : Kp3 w W g mb row) (k : Kp3 W W2 g mb row1) (hr : row1 = row ∨ row1 = none ∨ ∃ b, row1 = some b ∧ w.heap.size ≤ b) : Kp3 w W2 g mb row :=
  ⟨Nat.le_trans h.1 k.1, fun i hi hg hb hi' => by
    refine (k.2 i (Nat.lt_of_lt_of_le hi h.1) hg hb ?_).trans (h.2 i hi hg hb hi')
    rcases hr with rfl | rfl | ⟨b, rfl, hb⟩
    · exact hi'
    · simp
    · simp; omega⟩
theorem Kp3.alloc (w : World) (g : Nat) (mb row : Option Nat) (o : Obj) : Kp3 w (w.alloc o) g mb row := ⟨by rw [World.size_alloc]; omega, fun i hi _ _ _ => Below.heap_alloc w o i hi⟩
theorem Kp3.grown {w W : World} {g : Nat} {mb row : Option Nat} (h : w.grownBy W row) : Kp3 w W g mb row := ⟨h.size, fun i hi _ _ hr => h.block i hi hr⟩
theorem Kp3.set {w W : World} {g : Nat} {mb row : Option Nat} (h : Kp3 w W g mb row) (j : Nat) (u : Value) : Kp3 w (W.setCell ⟨g, j, none⟩ u) g mb row :=
  ⟨by rw [World.size_setCell]; exact h.1, fun i hi hg hb hr => (Below.heap_setCell _ _ _ _ hg).trans (h.2 i hi hg hb hr)⟩
theorem KIn.alloc {w0 g b1 b2 v code A c left W} (h : KIn w0 g b1 b2 v code A c left W) (o : Obj) : KIn w0 g b1 b2 v code A c left (W.alloc o) := ⟨blk_alloc h.blk o, Kd.R_alloc h.own o, h.lf, h.le, h.bel.alloc h.bel.size o, h.ge⟩
theorem KIn.drew {w0 g b1 b2 v code A c left W} (h : KIn w0 g b1 b2 v code A c left W) : KIn w0 g b1 b2 v code A c left W.drew := ⟨h.blk, h.own, h.lf, h.le, h.bel.drew, h.ge⟩
theorem KIn.out {mb w0 g b1 b2 v code A c left W} (h : KIn w0 g b1 b2 v code A c left W) : KOut w0 W g b1 b2 mb v v code A c left W := ⟨h, Kp3.refl _ _ _ _, .inl rfl⟩
theorem KOut.alloc {w0 w g b1 b2 mb v0 v code A c left W} (h : KOut w0 w g b1 b2 mb v0 v code A c left W) (o : Obj) : KOut w0 w g b1 b2 mb v0 v code A c left (W.alloc o) := ⟨h.st.alloc o, h.keep.trans (Kp3.alloc W g mb none o) (.inr (.inl rfl)), h.row⟩
theorem KOut.drew {w0 w g b1 b2 mb v0 v code A c left W} (h : KOut w0 w g b1 b2 mb v0 v code A c left W) : KOut w0 w g b1 b2 mb v0 v code A c left W.drew := ⟨h.st.drew, h.keep, h.row⟩
theorem KOut.call {w0 w g b1 b2 mb v0 v1 v2 code A c left code2 A2 c2 left2 W W2} (h : KOut w0 w g b1 b2 mb v0 v1 code A c left W) (h2 : KOut w0 W g b1 b2 mb v1 v2 code2 A2 c2 left2 W2) : KOut w0 w g b1 b2 mb v0 v2 code2 A2 c2 left2 W2 :=
  ⟨h2.st, h.keep.trans h2.keep h.row, by
    rcases h2.row with e | e | ⟨b, e, hb⟩
    · rw [e]; exact h.row
    · exact .inr (.inl e)
    · exact .inr (.inr ⟨b, e, Nat.le_trans h.keep.1 hb⟩)⟩
theorem KOut.more {w0 w g b1 b2 v0 v code A c left W} (h : KOut w0 w g b1 b2 none v0 v code A c left W) (mb : Option Nat) : KOut w0 w g b1 b2 mb v0 v code A c left W := ⟨h.st, ⟨h.keep.1, fun i hi hg _ hr => h.keep.2 i hi hg (by simp) hr⟩, h.row⟩
theorem KOut.appended {w0 w g b1 b2 mb v0 v code A c left W p v1 w1} (h : KOut w0 w g b1 b2 mb v0 v code A c left W) (h1 : Kd.R k40 40 w1 w0.heap.size (fun k => k ≠ g) v1 (code ++ [p])) (hB : Below w0.heap.size w0 w1) (hg : W.grownBy w1 v.ownBlock)
    (hr : v1.ownBlock = v.ownBlock ∨ ∃ b, v1.ownBlock = some b ∧ W.heap.size ≤ b) : KOut w0 w g b1 b2 mb v0 v1 (code ++ [p]) A c left (w1.setCell ⟨g, 0, none⟩ v1) :=
  ⟨⟨blk_set (blk_grown h.st.blk hg (fun e => h.st.own.1 g e.symm rfl)) 0 v1, Kd.R_far h1 (fun _ h => h) _, h.st.lf, h.st.le, hB.setCell h.st.ge _, h.st.ge⟩, (h.keep.trans (Kp3.grown hg) h.row).set 0 _, by
    rcases hr with e | ⟨b, e, hb⟩
    · rw [e]; exact h.row
    · exact .inr (.inr ⟨b, e, Nat.le_trans h.keep.1 hb⟩)⟩
theorem info40 : (Tryd.prog.info? 40).map (fun i => (i.zero, i.size, i.bytes)) = some (some (.agg #[.int .i64 0, .string ⟨#[]⟩, .string ⟨#[]⟩, .bool false, .int .i64 0, .int .i64 0]), 6, 64) := by kernel_rfl
set_option maxHeartbeats 4000000 in
set_option maxRecDepth 100000 in
theorem emit_any {w0 g b1 b2 v code A c left} (x : S40) (w : World) (hS : KIn w0 g b1 b2 v code A c left w) (hl : code.length ≤ 1000000) :
    Calls Tryd.prog 59 #[.pointer (some ⟨g, 0, none⟩), .agg #[.int .i64 x.f0, .string x.f1, .string x.f2, .bool x.f3, .int .i64 x.f4, .int .i64 x.f5]] w fun e w' => e = .returned (.int .i64 code.length) ∧ ∃ v', KOut w0 w g b1 b2 none v v' (code ++ [x]) A c left w' := by
  have c0 : w.cell? ⟨g, 0, none⟩ = some v := blk_cell hS.blk 0
  have f0 := blk_frozen hS.blk 0
  have hlt := blk_lt hS.blk
  have hlen : (code.length + 1) * 64 ≤ 140737488355328 := by omega
  obtain ⟨W1, e1⟩ : ∃ W1, W1 = w.alloc (.cells #[.int .i64 x.f0, .string x.f1, .string x.f2, .bool x.f3, .int .i64 x.f4, .int .i64 x.f5] 40) := ⟨_, rfl⟩
  replace hS := Aside0.mk hS
  have hS1 := Aside0.mk (show KOut w0 w g b1 b2 none v v code A c left W1 from by rw [e1]; exact hS.out.out.alloc _)
  have hb1 := Aside0.mk (show W1.heap[w.heap.size]? = some (.cells #[.int .i64 x.f0, .string x.f1, .string x.f2, .bool x.f3, .int .i64 x.f4, .int .i64 x.f5] 40 (0, 0)) from by rw [e1]; exact blk_new _ _)
  replace c0 : W1.cell? ⟨g, 0, none⟩ = some v := blk_cell hS1.out.st.blk 0
  replace f0 := blk_frozen hS1.out.st.blk 0
  have n0 : W1.cell? ⟨w.heap.size, 0, none⟩ = some (.int .i64 x.f0) := blk_cell hb1.out 0
  have n1 : W1.cell? ⟨w.heap.size, 1, none⟩ = some (.string x.f1) := blk_cell hb1.out 1
  have n2 : W1.cell? ⟨w.heap.size, 2, none⟩ = some (.string x.f2) := blk_cell hb1.out 2
  have n3 : W1.cell? ⟨w.heap.size, 3, none⟩ = some (.bool x.f3) := blk_cell hb1.out 3
  have n4 : W1.cell? ⟨w.heap.size, 4, none⟩ = some (.int .i64 x.f4) := blk_cell hb1.out 4
  have n5 : W1.cell? ⟨w.heap.size, 5, none⟩ = some (.int .i64 x.f5) := blk_cell hb1.out 5
  have ltg : g < W1.heap.size := blk_lt hS1.out.st.blk
  have ltb : w.heap.size < W1.heap.size := blk_lt hb1.out
  go_enter Tryd.func59, Tryd.ntmps59
  go_upto_region 1 with fail
  rw [← e1]
  clear e1
  refine wp_region_held_drew (S := (fun w' => w'.cell? ⟨w.heap.size, 0, none⟩ = some (.int .i64 x.f0) ∧ w'.cell? ⟨w.heap.size, 1, none⟩ = some (.string x.f1) ∧ w'.cell? ⟨w.heap.size, 2, none⟩ = some (.string x.f2) ∧ w'.cell? ⟨w.heap.size, 3, none⟩ = some (.bool x.f3) ∧ w'.cell? ⟨w.heap.size, 4, none⟩ = some (.int .i64 x.f4) ∧ w'.cell? ⟨w.heap.size, 5, none⟩ = some (.int .i64 x.f5))) (by kernel_rfl) ⟨n0, n1, n2, n3, n4, n5⟩ (fun hHeld => ?_)
  refine wpAnyH_take (i := 0) (v := ?_) rfl (by kernel_rfl) (by kernel_rfl) (by kernel_rfl) (fun _ _ _ h => h) (Or.inl ⟨by rfl, ?_⟩) (by assumption) ?_
  rotate_left
  · intro w hSw; (try dsimp only at hSw); go_simp; try with_reducible rfl
  try simp only [Act.put, List.setIfInBounds_toArray, List.set_cons_zero, List.set_cons_succ]
  refine wpAnyH_take (i := 1) (v := ?_) rfl (by kernel_rfl) (by kernel_rfl) (by kernel_rfl) (fun _ _ _ h => h) (Or.inl ⟨by rfl, ?_⟩) (by assumption) ?_
  rotate_left
  · intro w hSw; (try dsimp only at hSw); go_simp; try with_reducible rfl
  try simp only [Act.put, List.setIfInBounds_toArray, List.set_cons_zero, List.set_cons_succ]
  refine wpAnyH_take (i := 2) (v := ?_) rfl (by kernel_rfl) (by kernel_rfl) (by kernel_rfl) (fun _ _ _ h => h) (Or.inl ⟨by rfl, ?_⟩) (by assumption) ?_
  rotate_left
  · intro w hSw; (try dsimp only at hSw); go_simp; try with_reducible rfl
  try simp only [Act.put, List.setIfInBounds_toArray, List.set_cons_zero, List.set_cons_succ]
  refine wpAnyH_take (i := 3) (v := ?_) rfl (by kernel_rfl) (by kernel_rfl) (by kernel_rfl) (fun _ _ _ h => h) (Or.inl ⟨by rfl, ?_⟩) (by assumption) ?_
  rotate_left
  · intro w hSw; (try dsimp only at hSw); go_simp; try with_reducible rfl
  try simp only [Act.put, List.setIfInBounds_toArray, List.set_cons_zero, List.set_cons_succ]
  refine wpAnyH_take (i := 5) (v := ?_) rfl (by kernel_rfl) (by kernel_rfl) (by kernel_rfl) (fun _ _ _ h => h) (Or.inl ⟨by rfl, ?_⟩) (by assumption) ?_
  rotate_left
  · intro w hSw; (try dsimp only at hSw); go_simp; try with_reducible rfl
  try simp only [Act.put, List.setIfInBounds_toArray, List.set_cons_zero, List.set_cons_succ]
  refine wpAnyH_ready (rs := [4, 6]) (by kernel_rfl) (by simp) ?_
  refine AllReadyH.cons (o := _) rfl (fun K hK => ?_) ?_
  · go_simp
    refine hK.out _ _ (by exact ⟨n0, n1, n2, n3, n4, n5⟩) (fun hHeld => ?_)
    clear hK K
    try simp only [Act.put, List.setIfInBounds_toArray, List.set_cons_zero, List.set_cons_succ]
    refine wpAnyH_ready (rs := [6]) (by kernel_rfl) (by simp) ?_
    refine AllReadyH.cons (o := _) rfl (fun K hK => ?_) ?_
    · go_simp
      refine hK.out _ _ (by go_keep) (fun hHeld => ?_)
      clear hK K
      try simp only [Act.put, List.setIfInBounds_toArray, List.set_cons_zero, List.set_cons_succ]
      refine wpAnyH_ready (rs := [7]) (by kernel_rfl) (by simp) ?_
      refine AllReadyH.cons (o := _) rfl (fun K hK => ?_) ?_
      · rw [show ∀ o, (W1.alloc o).drew = W1.drew.alloc o from fun _ => rfl]; refine Kd.R_append_step k40 w0.heap.size (by simp [Region.wanted]) (.tmp 9) (.tmp 11) 30 40 (.agg #[.int .i64 0, .string ⟨#[]⟩, .string ⟨#[]⟩, .bool false, .int .i64 0, .int .i64 0]) 64 rfl Tryd.underlying30 info40 rfl (by decide) (by decide) v code x [.int .i64 x.f0, .string x.f1, .string x.f2, .bool x.f3, .int .i64 x.f4, .int .i64 x.f5] (fun k => k ≠ g) (fun k => k ≠ g ∧ some k ≠ v.ownBlock) rfl rfl (k40_mkM _ _ _ x) (fun k hk => hk) (fun k hk e => Nat.lt_irrefl g (Nat.lt_of_lt_of_le ltg (e ▸ hk))) hS1.out.drew.st.own hS1.out.drew.st.bel hS1.out.drew.st.bel.size hlen ?_; intro v1 w3 h1 hB1 hg1 hr1; obtain ⟨A1, c1', rfl⟩ := Kd.R_slice h1; have hX := Aside0.mk (hS1.out.drew.appended h1 hB1 hg1 hr1); simp only [List.length_append, List.length_cons, List.length_nil, Nat.zero_add] at hX; have hbg := blk_grown hS1.out.drew.st.blk hg1 (fun e => (hS1.out.drew.st.own.1 g e.symm) rfl); have hbb := blk_grown (w := W1.drew) (g := w.heap.size) hb1.out hg1 (fun e => Nat.lt_irrefl _ (own_lt (Kd.R_own hS.out.own).choose_spec _ e.symm)); clear c0 f0 n0 n1 n2 n3 n4 n5 h1 hB1 hg1 hr1; have c0 := blk_cell hbg 0; have f0 := blk_frozen hbg 0; have n0 : w3.cell? ⟨w.heap.size, 0, none⟩ = some (.int .i64 x.f0) := blk_cell hbb 0; have n1 : w3.cell? ⟨w.heap.size, 1, none⟩ = some (.string x.f1) := blk_cell hbb 1; have n2 : w3.cell? ⟨w.heap.size, 2, none⟩ = some (.string x.f2) := blk_cell hbb 2; have n3 : w3.cell? ⟨w.heap.size, 3, none⟩ = some (.bool x.f3) := blk_cell hbb 3; have n4 : w3.cell? ⟨w.heap.size, 4, none⟩ = some (.int .i64 x.f4) := blk_cell hbb 4; have n5 : w3.cell? ⟨w.heap.size, 5, none⟩ = some (.int .i64 x.f5) := blk_cell hbb 5
        refine hK.out _ _ (by exact ⟨n0, n1, n2, n3, n4, n5⟩) (fun hHeld => ?_)
        clear hK K
        try simp only [Act.put, List.setIfInBounds_toArray, List.set_cons_zero, List.set_cons_succ]
        refine wpAnyH_take (i := 8) (v := ?_) rfl (by kernel_rfl) (by kernel_rfl) (by kernel_rfl) (fun _ _ _ h => h) (Or.inl ⟨by rfl, ?_⟩) (by assumption) ?_
        rotate_left
        · intro w hSw; (try dsimp only at hSw); go_simp; try with_reducible rfl
        try simp only [Act.put, List.setIfInBounds_toArray, List.set_cons_zero, List.set_cons_succ]
        refine wpAnyH_take (i := 9) (v := ?_) rfl (by kernel_rfl) (by kernel_rfl) (by kernel_rfl) (fun _ _ _ h => h) (Or.inl ⟨by rfl, ?_⟩) (by assumption) ?_
        rotate_left
        · intro w hSw; (try dsimp only at hSw); go_simp; try with_reducible rfl
        try simp only [Act.put, List.setIfInBounds_toArray, List.set_cons_zero, List.set_cons_succ]
        refine wpAnyH_ready (rs := [10]) (by kernel_rfl) (by simp) ?_
        refine AllReadyH.cons (o := _) rfl (fun K hK => ?_) ?_
        · go_simp
          refine hK.out _ _ (by exact ⟨blk_cell ((Below.heap_setCell _ ⟨g, 0, none⟩ _ _ (Nat.ne_of_gt hlt)).trans hbb) 0, blk_cell ((Below.heap_setCell _ ⟨g, 0, none⟩ _ _ (Nat.ne_of_gt hlt)).trans hbb) 1, blk_cell ((Below.heap_setCell _ ⟨g, 0, none⟩ _ _ (Nat.ne_of_gt hlt)).trans hbb) 2, blk_cell ((Below.heap_setCell _ ⟨g, 0, none⟩ _ _ (Nat.ne_of_gt hlt)).trans hbb) 3, blk_cell ((Below.heap_setCell _ ⟨g, 0, none⟩ _ _ (Nat.ne_of_gt hlt)).trans hbb) 4, blk_cell ((Below.heap_setCell _ ⟨g, 0, none⟩ _ _ (Nat.ne_of_gt hlt)).trans hbb) 5⟩) (fun hHeld => ?_)
          clear hK K
          try simp only [Act.put, List.setIfInBounds_toArray, List.set_cons_zero, List.set_cons_succ]
          refine wpAnyH_done (by kernel_rfl) ?_ _
          clear c0 f0 n0 n1 n2 n3 n4 n5
          have c0 := blk_cell hX.out.st.blk 0
          have f0 := blk_frozen hX.out.st.blk 0
          have hm : IntKind.i64.wrap (((code.length + 1 : Nat) : Int) - 1) = (code.length : Int) := by rw [IntKind.wrap_i64]; omega
          go_wp2_with fail
          go_ret
          exact ⟨rfl, _, hX.out⟩
        exact AllReadyH.nil
      exact AllReadyH.nil
    exact AllReadyH.nil
  refine AllReadyH.cons (o := _) rfl (fun K hK => ?_) ?_
  · go_simp
    refine hK.out _ _ (by go_keep) (fun hHeld => ?_)
    clear hK K
    try simp only [Act.put, List.setIfInBounds_toArray, List.set_cons_zero, List.set_cons_succ]
    refine wpAnyH_ready (rs := [4]) (by kernel_rfl) (by simp) ?_
    refine AllReadyH.cons (o := _) rfl (fun K hK => ?_) ?_
    · go_simp
      refine hK.out _ _ (by first | exact hHeld | go_keep) (fun hHeld => ?_)
      clear hK K
      try simp only [Act.put, List.setIfInBounds_toArray, List.set_cons_zero, List.set_cons_succ]
      refine wpAnyH_ready (rs := [7]) (by kernel_rfl) (by simp) ?_
      refine AllReadyH.cons (o := _) rfl (fun K hK => ?_) ?_
      · rw [show ∀ o, (W1.alloc o).drew = W1.drew.alloc o from fun _ => rfl]; refine Kd.R_append_step k40 w0.heap.size (by simp [Region.wanted]) (.tmp 9) (.tmp 11) 30 40 (.agg #[.int .i64 0, .string ⟨#[]⟩, .string ⟨#[]⟩, .bool false, .int .i64 0, .int .i64 0]) 64 rfl Tryd.underlying30 info40 rfl (by decide) (by decide) v code x [.int .i64 x.f0, .string x.f1, .string x.f2, .bool x.f3, .int .i64 x.f4, .int .i64 x.f5] (fun k => k ≠ g) (fun k => k ≠ g ∧ some k ≠ v.ownBlock) rfl rfl (k40_mkM _ _ _ x) (fun k hk => hk) (fun k hk e => Nat.lt_irrefl g (Nat.lt_of_lt_of_le ltg (e ▸ hk))) hS1.out.drew.st.own hS1.out.drew.st.bel hS1.out.drew.st.bel.size hlen ?_; intro v1 w3 h1 hB1 hg1 hr1; obtain ⟨A1, c1', rfl⟩ := Kd.R_slice h1; have hX := Aside0.mk (hS1.out.drew.appended h1 hB1 hg1 hr1); simp only [List.length_append, List.length_cons, List.length_nil, Nat.zero_add] at hX; have hbg := blk_grown hS1.out.drew.st.blk hg1 (fun e => (hS1.out.drew.st.own.1 g e.symm) rfl); have hbb := blk_grown (w := W1.drew) (g := w.heap.size) hb1.out hg1 (fun e => Nat.lt_irrefl _ (own_lt (Kd.R_own hS.out.own).choose_spec _ e.symm)); clear c0 f0 n0 n1 n2 n3 n4 n5 h1 hB1 hg1 hr1; have c0 := blk_cell hbg 0; have f0 := blk_frozen hbg 0; have n0 : w3.cell? ⟨w.heap.size, 0, none⟩ = some (.int .i64 x.f0) := blk_cell hbb 0; have n1 : w3.cell? ⟨w.heap.size, 1, none⟩ = some (.string x.f1) := blk_cell hbb 1; have n2 : w3.cell? ⟨w.heap.size, 2, none⟩ = some (.string x.f2) := blk_cell hbb 2; have n3 : w3.cell? ⟨w.heap.size, 3, none⟩ = some (.bool x.f3) := blk_cell hbb 3; have n4 : w3.cell? ⟨w.heap.size, 4, none⟩ = some (.int .i64 x.f4) := blk_cell hbb 4; have n5 : w3.cell? ⟨w.heap.size, 5, none⟩ = some (.int .i64 x.f5) := blk_cell hbb 5
        refine hK.out _ _ (by exact ⟨n0, n1, n2, n3, n4, n5⟩) (fun hHeld => ?_)
        clear hK K
        try simp only [Act.put, List.setIfInBounds_toArray, List.set_cons_zero, List.set_cons_succ]
        refine wpAnyH_take (i := 8) (v := ?_) rfl (by kernel_rfl) (by kernel_rfl) (by kernel_rfl) (fun _ _ _ h => h) (Or.inl ⟨by rfl, ?_⟩) (by assumption) ?_
        rotate_left
        · intro w hSw; (try dsimp only at hSw); go_simp; try with_reducible rfl
        try simp only [Act.put, List.setIfInBounds_toArray, List.set_cons_zero, List.set_cons_succ]
        refine wpAnyH_take (i := 9) (v := ?_) rfl (by kernel_rfl) (by kernel_rfl) (by kernel_rfl) (fun _ _ _ h => h) (Or.inl ⟨by rfl, ?_⟩) (by assumption) ?_
        rotate_left
        · intro w hSw; (try dsimp only at hSw); go_simp; try with_reducible rfl
        try simp only [Act.put, List.setIfInBounds_toArray, List.set_cons_zero, List.set_cons_succ]
        refine wpAnyH_ready (rs := [10]) (by kernel_rfl) (by simp) ?_
        refine AllReadyH.cons (o := _) rfl (fun K hK => ?_) ?_
        · go_simp
          refine hK.out _ _ (by exact ⟨blk_cell ((Below.heap_setCell _ ⟨g, 0, none⟩ _ _ (Nat.ne_of_gt hlt)).trans hbb) 0, blk_cell ((Below.heap_setCell _ ⟨g, 0, none⟩ _ _ (Nat.ne_of_gt hlt)).trans hbb) 1, blk_cell ((Below.heap_setCell _ ⟨g, 0, none⟩ _ _ (Nat.ne_of_gt hlt)).trans hbb) 2, blk_cell ((Below.heap_setCell _ ⟨g, 0, none⟩ _ _ (Nat.ne_of_gt hlt)).trans hbb) 3, blk_cell ((Below.heap_setCell _ ⟨g, 0, none⟩ _ _ (Nat.ne_of_gt hlt)).trans hbb) 4, blk_cell ((Below.heap_setCell _ ⟨g, 0, none⟩ _ _ (Nat.ne_of_gt hlt)).trans hbb) 5⟩) (fun hHeld => ?_)
          clear hK K
          try simp only [Act.put, List.setIfInBounds_toArray, List.set_cons_zero, List.set_cons_succ]
          refine wpAnyH_done (by kernel_rfl) ?_ _
          clear c0 f0 n0 n1 n2 n3 n4 n5
          have c0 := blk_cell hX.out.st.blk 0
          have f0 := blk_frozen hX.out.st.blk 0
          have hm : IntKind.i64.wrap (((code.length + 1 : Nat) : Int) - 1) = (code.length : Int) := by rw [IntKind.wrap_i64]; omega
          go_wp2_with fail
          go_ret
          exact ⟨rfl, _, hX.out⟩
        exact AllReadyH.nil
      exact AllReadyH.nil
    exact AllReadyH.nil
  exact AllReadyH.nil
end Go.Proofs.YtkpnfejfbmandaaDoor.Px

/- compile: land; what the compiler generates. -/
namespace Go.Proofs.YtkpnfejfbmandaaDoor.Px
open Go.RowKit Go.Proofs.YtkpnfejfbmandaaDoorW.PrintWords Go.Proofs.YtkpnfejfbmandaaDoorW.PrintLast Go.Proofs.YtkpnfejfbmandaaDoorW.PrintMore
set_option linter.unusedVariables false
set_option linter.unusedSimpArgs false
def setTo (l : List S40) (i : Nat) (q : Int) : List S40 := l.modify i (fun x => { x with f5 := q })
theorem setTo_length (l : List S40) (i : Nat) (q : Int) : (setTo l i q).length = l.length := by simp [setTo]
/-- Element i's field 5 is stored anew in a row of one's own. -/
theorem k40_put5 {W : World} {base : Nat} {ok : Nat → Prop} {v : Value} {xs : List S40} (h : Kd.R k40 40 W base ok v xs) (i : Nat) (hi : i < xs.length) (q : Int) :
    ∃ g c, v = .slice (some ⟨g, 0, none⟩) xs.length c ∧ ok g ∧ W.frozen? ⟨g, i * 6 + 5, none⟩ = false ∧ (∃ u, W.cell? ⟨g, i * 6 + 5, none⟩ = some u) ∧
      Kd.R k40 40 (W.setCell ⟨g, i * 6 + 5, none⟩ (.int .i64 q)) base ok v (setTo xs i q) ∧ W.grownBy (W.setCell ⟨g, i * 6 + 5, none⟩ (.int .i64 q)) (some g) := by
  obtain ⟨h0, inner, hown, hr⟩ := h
  have hown0 := hown
  rcases hown.2 with ⟨_, h2⟩ | ⟨g, c, cur, hv, hb, hg, hnc, hcm, hcs, htake⟩
  · omega
  subst hv
  have hs := hown.stored (i * 6 + 5) (.int .i64 q)
  have hsz : i * 6 + 5 < cur.size := by
    have : k40.sz = 6 := rfl
    rw [hcs, this]; omega
  refine ⟨g, c, rfl, h0 g rfl, blk_frozen hg _, ⟨cur[i * 6 + 5], (blk_cell hg _).trans (Array.getElem?_eq_getElem hsz)⟩, ⟨h0, inner.set (i * 6 + 5) (.int .i64 q), by rw [setTo_length]; exact hs.1, ?_⟩, hs.2⟩
  refine ⟨by rw [List.length_set, setTo_length]; exact hr.1, fun j p hj => ?_⟩
  have hj' : xs[j]?.map (fun x => if i = j then { x with f5 := q } else x) = some p := by
    rw [← hj]; simp [setTo, List.getElem?_modify]
  obtain ⟨x, hx, rfl⟩ := Option.map_eq_some_iff.1 hj'
  have hM := hr.2 j x hx
  have hx1 := (List.getElem?_eq_some_iff.1 hx).1
  have hil : inner.length = xs.length * 6 := hr.1
  by_cases hij : i = j
  · subst hij
    rw [if_pos rfl]
    have e6 : ((inner.set (i * 6 + 5) (.int .i64 q)).drop (i * k40.sz)).take k40.sz = [.int .i64 x.f0, .string x.f1, .string x.f2, .bool x.f3, .int .i64 x.f4, .int .i64 q] := by
      show ((inner.set (i * 6 + 5) (.int .i64 q)).drop (i * 6)).take 6 = _
      have hM6 := k40_openM hM
      rw [show k40.sz = 6 from rfl] at hM6
      rw [List.drop_set, if_neg (by omega), show i * 6 + 5 - i * 6 = 5 from by omega, List.take_set, hM6]
      rfl
    rw [e6]
    exact k40_mkM _ _ _ { x with f5 := q }
  · rw [if_neg hij]
    have e6 : ((inner.set (i * 6 + 5) (.int .i64 q)).drop (j * k40.sz)).take k40.sz = (inner.drop (j * k40.sz)).take k40.sz := by
      show ((inner.set (i * 6 + 5) (.int .i64 q)).drop (j * 6)).take 6 = (inner.drop (j * 6)).take 6
      apply List.ext_getElem?
      intro k
      rw [List.getElem?_take, List.getElem?_take]
      split
      · rw [List.getElem?_drop, List.getElem?_drop, List.getElem?_set, if_neg (by omega)]
      · rfl
    rw [e6, k40_openM hM]
    exact k40_mkM _ _ _ x
theorem KOut.landed {w0 w g b1 b2 mb v0 v code A c left W} (h : KOut w0 w g b1 b2 mb v0 v code A c left W) {gr : Nat} {p : Addr} {u : Value} {code2 : List S40} (hv : v.ownBlock = some gr) (hp : p.block = gr) (h1 : Kd.R k40 40 (W.setCell p u) w0.heap.size (fun k => k ≠ g) v code2) (hg : W.grownBy (W.setCell p u) (some gr)) : KOut w0 w g b1 b2 mb v0 v code2 A c left (W.setCell p u) :=
  ⟨⟨blk_grown h.st.blk hg (fun e => h.st.own.1 g (by rw [hv, ← e]) rfl), h1, h.st.lf, h.st.le, h.st.bel.setCell (by rw [hp]; exact (own_base (Kd.R_own h.st.own).choose_spec gr hv)) _, h.st.ge⟩, h.keep.trans (Kp3.grown (by rw [hv]; exact hg)) h.row, h.row⟩
set_option maxHeartbeats 4000000 in
set_option maxRecDepth 100000 in
theorem land_any {w0 g b1 b2 v code A c left} (i : Nat) (hi : i < code.length) (w : World) (hS : KIn w0 g b1 b2 v code A c left w) :
    Calls Tryd.prog 93 #[.pointer (some ⟨g, 0, none⟩), .int .i64 i] w fun e w' => e = .returned (.tuple #[]) ∧ KOut w0 w g b1 b2 none v v (setTo code i code.length) A c left w' := by
  obtain ⟨gr, cr, rfl, hgr, hfr, ⟨u, hcu⟩, hR, hG⟩ := k40_put5 hS.own i hi code.length
  have c0 : w.cell? ⟨g, 0, none⟩ = some (.slice (some ⟨gr, 0, none⟩) code.length cr) := blk_cell hS.blk 0
  have f0 := blk_frozen hS.blk 0
  have hlt := blk_lt hS.blk
  have hi0 : (0 : Int) ≤ (i : Int) := Int.natCast_nonneg i
  have hi1 : (i : Int) < (code.length : Int) := by omega
  have hD := Aside0.mk (hS.out (mb := none)).drew
  replace hR := Aside0.mk hR
  replace hG := Aside0.mk hG
  replace hS := Aside0.mk hS
  go_enter Tryd.func93, Tryd.ntmps93
  go_region_held3 (fun w' => w'.cell? ⟨g, 0, none⟩ = some (.slice (some ⟨gr, 0, none⟩) code.length cr)) (first | exact c0 | exact (cell_far (fun e => hgr e.symm) _).trans c0 | go_keep) (fail)
  all_goals exact Go.Great.bodyPost_end0 rfl rfl ⟨rfl, (hS.out.out.landed (gr := gr) (p := ⟨gr, i * 6 + 5, none⟩) rfl rfl hR.out hG.out).drew⟩
end Go.Proofs.YtkpnfejfbmandaaDoor.Px
