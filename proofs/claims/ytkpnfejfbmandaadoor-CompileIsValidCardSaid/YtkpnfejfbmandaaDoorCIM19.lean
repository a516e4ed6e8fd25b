import Derived.Test.YtkpnfejfbmandaaDoorCIM2
import Derived.Test.YtkpnfejfbmandaaDoorCIM18
import Derived.Outline
import Derived.Great.Walk
/- Kinds of instructions. -/
namespace Go.Proofs.YtkpnfejfbmandaaDoor.Px
open Go.RowKit Go.Proofs.YtkpnfejfbmandaaDoorW.PrintWords Go.Proofs.YtkpnfejfbmandaaDoorW.PrintLast Go.Proofs.YtkpnfejfbmandaaDoorW.PrintMore
set_option linter.unusedVariables false
set_option linter.unusedSimpArgs false
structure S40 where
  f0 : Int
  f1 : ByteArray
  f2 : ByteArray
  f3 : Bool
  f4 : Int
  f5 : Int
def z40 : S40 := ⟨(0 : Int), (⟨#[]⟩ : ByteArray), (⟨#[]⟩ : ByteArray), false, (0 : Int), (0 : Int)⟩
def k40 : Kd S40 := Kd.iso (Kd.pair (Kd.int .i64) (Kd.pair Kd.string (Kd.pair Kd.string (Kd.pair Kd.bool (Kd.pair (Kd.int .i64) (Kd.int .i64)))))) (fun x : S40 => (x.f0, x.f1, x.f2, x.f3, x.f4, x.f5))
theorem k40_open {w : World} {x : S40} {cs : List Value} (h : k40.K w x cs) : cs = [.int .i64 x.f0, .string x.f1, .string x.f2, .bool x.f3, .int .i64 x.f4, .int .i64 x.f5] := by
  obtain ⟨_, _, rfl, rfl, ⟨_, _, rfl, rfl, ⟨_, _, rfl, rfl, ⟨_, _, rfl, rfl, ⟨_, _, rfl, rfl, rfl⟩⟩⟩⟩⟩ := h
  exact rfl
theorem k40_openM {w : World} {base : Nat} {ok : Nat → Prop} {x : S40} {cs : List Value} (h : k40.M w base ok x cs) : cs = [.int .i64 x.f0, .string x.f1, .string x.f2, .bool x.f3, .int .i64 x.f4, .int .i64 x.f5] := by
  obtain ⟨_, _, rfl, rfl, ⟨_, _, rfl, rfl, ⟨_, _, rfl, rfl, ⟨_, _, rfl, rfl, ⟨_, _, rfl, rfl, rfl⟩⟩⟩⟩⟩ := h
  exact rfl
theorem k40_mk (w : World) (x : S40)  : k40.K w x [.int .i64 x.f0, .string x.f1, .string x.f2, .bool x.f3, .int .i64 x.f4, .int .i64 x.f5] := ⟨[.int .i64 x.f0], [.string x.f1, .string x.f2, .bool x.f3, .int .i64 x.f4, .int .i64 x.f5], rfl, rfl, ⟨[.string x.f1], [.string x.f2, .bool x.f3, .int .i64 x.f4, .int .i64 x.f5], rfl, rfl, ⟨[.string x.f2], [.bool x.f3, .int .i64 x.f4, .int .i64 x.f5], rfl, rfl, ⟨[.bool x.f3], [.int .i64 x.f4, .int .i64 x.f5], rfl, rfl, ⟨[.int .i64 x.f4], [.int .i64 x.f5], rfl, rfl, rfl⟩⟩⟩⟩⟩
theorem k40_mkM (w : World) (base : Nat) (ok : Nat → Prop) (x : S40)  : k40.M w base ok x [.int .i64 x.f0, .string x.f1, .string x.f2, .bool x.f3, .int .i64 x.f4, .int .i64 x.f5] := ⟨[.int .i64 x.f0], [.string x.f1, .string x.f2, .bool x.f3, .int .i64 x.f4, .int .i64 x.f5], rfl, rfl, ⟨[.string x.f1], [.string x.f2, .bool x.f3, .int .i64 x.f4, .int .i64 x.f5], rfl, rfl, ⟨[.string x.f2], [.bool x.f3, .int .i64 x.f4, .int .i64 x.f5], rfl, rfl, ⟨[.bool x.f3], [.int .i64 x.f4, .int .i64 x.f5], rfl, rfl, ⟨[.int .i64 x.f4], [.int .i64 x.f5], rfl, rfl, rfl⟩⟩⟩⟩⟩
def rd_T40 (xs : List S40) (i : Int) : S40 := xs.getD i.toNat z40
theorem at_T40 {w : World} {A : Option Addr} {n : Nat} {xs : List S40} (h : Kd.C k40 w A n xs) (i : Int) (h0 : 0 ≤ i) (h1 : i < n) : ∃ ad , A = some ad ∧ w.cell? (ad.add (i.toNat * 6)) = some (.int .i64 (rd_T40 xs i).f0) ∧ w.cell? ⟨(ad.add (i.toNat * 6)).block, (ad.add (i.toNat * 6)).off + 1, none⟩ = some (.string (rd_T40 xs i).f1) ∧ w.cell? ⟨(ad.add (i.toNat * 6)).block, (ad.add (i.toNat * 6)).off + 2, none⟩ = some (.string (rd_T40 xs i).f2) ∧ w.cell? ⟨(ad.add (i.toNat * 6)).block, (ad.add (i.toNat * 6)).off + 3, none⟩ = some (.bool (rd_T40 xs i).f3) ∧ w.cell? ⟨(ad.add (i.toNat * 6)).block, (ad.add (i.toNat * 6)).off + 4, none⟩ = some (.int .i64 (rd_T40 xs i).f4) ∧ w.cell? ⟨(ad.add (i.toNat * 6)).block, (ad.add (i.toNat * 6)).off + 5, none⟩ = some (.int .i64 (rd_T40 xs i).f5) := by
  obtain ⟨ad, c, e, _, hK, hc0⟩ := Kd.C_get h z40 i h0 h1
  have hc : ∀ j u, c[j]? = some u → w.cell? (ad.add (i.toNat * 6 + j)) = some u := hc0
  obtain rfl := k40_open hK
  exact ⟨ad, e, hc 0 _ rfl, by rw [← add_field _ _ 1 (by omega)]; exact hc 1 _ rfl, by rw [← add_field _ _ 2 (by omega)]; exact hc 2 _ rfl, by rw [← add_field _ _ 3 (by omega)]; exact hc 3 _ rfl, by rw [← add_field _ _ 4 (by omega)]; exact hc 4 _ rfl, by rw [← add_field _ _ 5 (by omega)]; exact hc 5 _ rfl⟩
end Go.Proofs.YtkpnfejfbmandaaDoor.Px
namespace Go.Proofs.YtkpnfejfbmandaaDoor.Px
open Go.RowKit Go.Proofs.YtkpnfejfbmandaaDoorW.PrintWords Go.Proofs.YtkpnfejfbmandaaDoorW.PrintLast Go.Proofs.YtkpnfejfbmandaaDoorW.PrintMore
set_option linter.unusedVariables false
set_option linter.unusedSimpArgs false
structure KS where
  code : List S40
  left : List Int
  calls : List (Int × ByteArray)
structure KIn (w0 : World) (g b1 b2 : Nat) (v : Value) (code : List S40) (A : Option Addr) (c : Nat) (left : List Int) (W : World) : Prop where
  blk : W.heap[g]? = some (.cells #[v, .map (some b1), .slice A left.length c, .map (some b2)] 122 (0, 0))
  own : Kd.R k40 40 W w0.heap.size (fun k => k ≠ g) v code
  lf : Kd.C (Kd.int .i64) w0 A left.length left
  le : left.length ≤ c
  bel : Below w0.heap.size w0 W
  ge : w0.heap.size ≤ g
def Kp3 (w W : World) (g : Nat) (mb row : Option Nat) : Prop := w.heap.size ≤ W.heap.size ∧ ∀ k, k < w.heap.size → k ≠ g → some k ≠ mb → some k ≠ row → W.heap[k]? = w.heap[k]?
structure KOut (w0 w : World) (g b1 b2 : Nat) (mb : Option Nat) (v0 v : Value) (code : List S40) (A : Option Addr) (c : Nat) (left : List Int) (W : World) : Prop where
  st : KIn w0 g b1 b2 v code A c left W
  keep : Kp3 w W g mb v0.ownBlock
  row : v.ownBlock = v0.ownBlock ∨ v.ownBlock = none ∨ ∃ b, v.ownBlock = some b ∧ w.heap.size ≤ b
theorem Kp3.refl (w : World) (g : Nat) (mb row : Option Nat) : Kp3 w w g mb row := ⟨Nat.le_refl _, fun _ _ _ _ _ => rfl⟩
theorem Kp3.trans {w W W2 : World} {g : Nat} {mb row row1 : Option Nat} (h : Kp3 w W g mb row) (k : Kp3 W W2 g mb row1) (hr : row1 = row ∨ row1 = none ∨ ∃ b, row1 = some b ∧ w.heap.size ≤ b) : Kp3 w W2 g mb row :=
  ⟨Nat.le_trans h.1 k.1, fun i hi hg hb hi' => by
    refine (k.2 i (Nat.lt_of_lt_of_le hi h.1) hg hb ?_).trans (h.2 i hi hg hb hi')
    rcases hr with rfl | rfl | ⟨b, rfl, hb⟩
    · exact hi'
    · simp
    · simp; omega⟩
theorem Kp3.alloc (w : World) (g : Nat) (mb row : Option Nat) (o : Obj) : Kp3 w (w.alloc o) g mb row := ⟨by rw [World.size_alloc]; omega, fun i hi _ _ _ => Below.heap_alloc w o i hi⟩
theorem Kp3.grown {w W : World} {g : Nat} {mb row : Option Nat} (h : w.grownBy W row) : Kp3 w W g mb row := ⟨h.size, fun i hi _ _ hr => h.block i hi hr⟩
theorem Kp3.set {w W : World} {g : Nat} {mb row : Option Nat} (h : Kp3 w W g mb row) (j : Nat) (u : Value) : Kp3 w (W.setCell ⟨g, j, none⟩ u) g mb row :=
  ⟨by rw [World.size_setCell]; exact h.1, fun i hi hg hb hr => (Below.heap_setCell _ _ _ _ hg).trans (h.2 i hi hg hb hr)⟩
theorem KIn.alloc {w0 g b1 b2 v code A c left W} (h : KIn w0 g b1 b2 v code A c left W) (o : Obj) : KIn w0 g b1 b2 v code A c left (W.alloc o) := ⟨blk_alloc h.blk o, Kd.R_alloc h.own o, h.lf, h.le, h.bel.alloc h.bel.size o, h.ge⟩
theorem KIn.drew {w0 g b1 b2 v code A c left W} (h : KIn w0 g b1 b2 v code A c left W) : KIn w0 g b1 b2 v code A c left W.drew := ⟨h.blk, h.own, h.lf, h.le, h.bel.drew, h.ge⟩
theorem KIn.out {mb w0 g b1 b2 v code A c left W} (h : KIn w0 g b1 b2 v code A c left W) : KOut w0 W g b1 b2 mb v v code A c left W := ⟨h, Kp3.refl _ _ _ _, .inl rfl⟩
theorem KOut.alloc {w0 w g b1 b2 mb v0 v code A c left W} (h : KOut w0 w g b1 b2 mb v0 v code A c left W) (o : Obj) : KOut w0 w g b1 b2 mb v0 v code A c left (W.alloc o) := ⟨h.st.alloc o, h.keep.trans (Kp3.alloc W g mb none o) (.inr (.inl rfl)), h.row⟩
theorem KOut.drew {w0 w g b1 b2 mb v0 v code A c left W} (h : KOut w0 w g b1 b2 mb v0 v code A c left W) : KOut w0 w g b1 b2 mb v0 v code A c left W.drew := ⟨h.st.drew, h.keep, h.row⟩
theorem KOut.call {w0 w g b1 b2 mb v0 v1 v2 code A c left code2 A2 c2 left2 W W2} (h : KOut w0 w g b1 b2 mb v0 v1 code A c left W) (h2 : KOut w0 W g b1 b2 mb v1 v2 code2 A2 c2 left2 W2) : KOut w0 w g b1 b2 mb v0 v2 code2 A2 c2 left2 W2 :=
  ⟨h2.st, h.keep.trans h2.keep h.row, by
    rcases h2.row with e | e | ⟨b, e, hb⟩
    · rw [e]; exact h.row
    · exact .inr (.inl e)
    · exact .inr (.inr ⟨b, e, Nat.le_trans h.keep.1 hb⟩)⟩
theorem KOut.more {w0 w g b1 b2 v0 v code A c left W} (h : KOut w0 w g b1 b2 none v0 v code A c left W) (mb : Option Nat) : KOut w0 w g b1 b2 mb v0 v code A c left W := ⟨h.st, ⟨h.keep.1, fun i hi hg _ hr => h.keep.2 i hi hg (by simp) hr⟩, h.row⟩
theorem KOut.appended {w0 w g b1 b2 mb v0 v code A c left W p v1 w1} (h : KOut w0 w g b1 b2 mb v0 v code A c left W) (h1 : Kd.R k40 40 w1 w0.heap.size (fun k => k ≠ g) v1 (code ++ [p])) (hB : Below w0.heap.size w0 w1) (hg : W.grownBy w1 v.ownBlock)
    (hr : v1.ownBlock = v.ownBlock ∨ ∃ b, v1.ownBlock = some b ∧ W.heap.size ≤ b) : KOut w0 w g b1 b2 mb v0 v1 (code ++ [p]) A c left (w1.setCell ⟨g, 0, none⟩ v1) :=
  ⟨⟨blk_set (blk_grown h.st.blk hg (fun e => h.st.own.1 g e.symm rfl)) 0 v1, Kd.R_far h1 (fun _ h => h) _, h.st.lf, h.st.le, hB.setCell h.st.ge _, h.st.ge⟩, (h.keep.trans (Kp3.grown hg) h.row).set 0 _, by
    rcases hr with e | ⟨b, e, hb⟩
    · rw [e]; exact h.row
    · exact .inr (.inr ⟨b, e, Nat.le_trans h.keep.1 hb⟩)⟩
theorem info40 : (Tryd.prog.info? 40).map (fun i => (i.zero, i.size, i.bytes)) = some (some (.agg #[.int .i64 0, .string ⟨#[]⟩, .string ⟨#[]⟩, .bool false, .int .i64 0, .int .i64 0]), 6, 64) := by kernel_rfl
set_option maxHeartbeats 4000000 in
set_option maxRecDepth 100000 in
theorem emit_any {w0 g b1 b2 v code A c left} (x : S40) (w : World) (hS : KIn w0 g b1 b2 v code A c left w) (hl : code.length ≤ 1000000) :
    Calls Tryd.prog 59 #[.pointer (some ⟨g, 0, none⟩), .agg #[.int .i64 x.f0, .string x.f1, .string x.f2, .bool x.f3, .int .i64 x.f4, .int .i64 x.f5]] w fun e w' => e = .returned (.int .i64 code.length) ∧ ∃ v', KOut w0 w g b1 b2 none v v' (code ++ [x]) A c left w' := by
  have c0 : w.cell? ⟨g, 0, none⟩ = some v := blk_cell hS.blk 0
  have f0 := blk_frozen hS.blk 0
  have hlt := blk_lt hS.blk
  have hlen : (code.length + 1) * 64 ≤ 140737488355328 := by omega
  obtain ⟨W1, e1⟩ : ∃ W1, W1 = w.alloc (.cells #[.int .i64 x.f0, .string x.f1, .string x.f2, .bool x.f3, .int .i64 x.f4, .int .i64 x.f5] 40) := ⟨_, rfl⟩
  replace hS := Aside0.mk hS
  have hS1 := Aside0.mk (show KOut w0 w g b1 b2 none v v code A c left W1 from by rw [e1]; exact hS.out.out.alloc _)
  have hb1 := Aside0.mk (show W1.heap[w.heap.size]? = some (.cells #[.int .i64 x.f0, .string x.f1, .string x.f2, .bool x.f3, .int .i64 x.f4, .int .i64 x.f5] 40 (0, 0)) from by rw [e1]; exact blk_new _ _)
  replace c0 : W1.cell? ⟨g, 0, none⟩ = some v := blk_cell hS1.out.st.blk 0
  replace f0 := blk_frozen hS1.out.st.blk 0
  have n0 : W1.cell? ⟨w.heap.size, 0, none⟩ = some (.int .i64 x.f0) := blk_cell hb1.out 0
  have n1 : W1.cell? ⟨w.heap.size, 1, none⟩ = some (.string x.f1) := blk_cell hb1.out 1
  have n2 : W1.cell? ⟨w.heap.size, 2, none⟩ = some (.string x.f2) := blk_cell hb1.out 2
  have n3 : W1.cell? ⟨w.heap.size, 3, none⟩ = some (.bool x.f3) := blk_cell hb1.out 3
  have n4 : W1.cell? ⟨w.heap.size, 4, none⟩ = some (.int .i64 x.f4) := blk_cell hb1.out 4
  have n5 : W1.cell? ⟨w.heap.size, 5, none⟩ = some (.int .i64 x.f5) := blk_cell hb1.out 5
  have ltg : g < W1.heap.size := blk_lt hS1.out.st.blk
  have ltb : w.heap.size < W1.heap.size := blk_lt hb1.out
  go_enter Tryd.func59, Tryd.ntmps59
  go_upto_region 1 with fail
  rw [← e1]
  clear e1
  refine wp_region_held_drew (S := (fun w' => w'.cell? ⟨w.heap.size, 0, none⟩ = some (.int .i64 x.f0) ∧ w'.cell? ⟨w.heap.size, 1, none⟩ = some (.string x.f1) ∧ w'.cell? ⟨w.heap.size, 2, none⟩ = some (.string x.f2) ∧ w'.cell? ⟨w.heap.size, 3, none⟩ = some (.bool x.f3) ∧ w'.cell? ⟨w.heap.size, 4, none⟩ = some (.int .i64 x.f4) ∧ w'.cell? ⟨w.heap.size, 5, none⟩ = some (.int .i64 x.f5))) (by kernel_rfl) ⟨n0, n1, n2, n3, n4, n5⟩ (fun hHeld => ?_)
  refine wpAnyH_take (i := 0) (v := ?_) rfl (by kernel_rfl) (by kernel_rfl) (by kernel_rfl) (fun _ _ _ h => h) (Or.inl ⟨by rfl, ?_⟩) (by assumption) ?_
  rotate_left
  · intro w hSw; (try dsimp only at hSw); go_simp; try with_reducible rfl
  try simp only [Act.put, List.setIfInBounds_toArray, List.set_cons_zero, List.set_cons_succ]
  refine wpAnyH_take (i := 1) (v := ?_) rfl (by kernel_rfl) (by kernel_rfl) (by kernel_rfl) (fun _ _ _ h => h) (Or.inl ⟨by rfl, ?_⟩) (by assumption) ?_
  rotate_left
  · intro w hSw; (try dsimp only at hSw); go_simp; try with_reducible rfl
  try simp only [Act.put, List.setIfInBounds_toArray, List.set_cons_zero, List.set_cons_succ]
  refine wpAnyH_take (i := 2) (v := ?_) rfl (by kernel_rfl) (by kernel_rfl) (by kernel_rfl) (fun _ _ _ h => h) (Or.inl ⟨by rfl, ?_⟩) (by assumption) ?_
  rotate_left
  · intro w hSw; (try dsimp only at hSw); go_simp; try with_reducible rfl
  try simp only [Act.put, List.setIfInBounds_toArray, List.set_cons_zero, List.set_cons_succ]
  refine wpAnyH_take (i := 3) (v := ?_) rfl (by kernel_rfl) (by kernel_rfl) (by kernel_rfl) (fun _ _ _ h => h) (Or.inl ⟨by rfl, ?_⟩) (by assumption) ?_
  rotate_left
  · intro w hSw; (try dsimp only at hSw); go_simp; try with_reducible rfl
  try simp only [Act.put, List.setIfInBounds_toArray, List.set_cons_zero, List.set_cons_succ]
  refine wpAnyH_take (i := 5) (v := ?_) rfl (by kernel_rfl) (by kernel_rfl) (by kernel_rfl) (fun _ _ _ h => h) (Or.inl ⟨by rfl, ?_⟩) (by assumption) ?_
  rotate_left
  · intro w hSw; (try dsimp only at hSw); go_simp; try with_reducible rfl
  try simp only [Act.put, List.setIfInBounds_toArray, List.set_cons_zero, List.set_cons_succ]
  refine wpAnyH_ready (rs := [4, 6]) (by kernel_rfl) (by simp) ?_
  refine AllReadyH.cons (o := _) rfl (fun K hK => ?_) ?_
  · go_simp
    refine hK.out _ _ (by exact ⟨n0, n1, n2, n3, n4, n5⟩) (fun hHeld => ?_)
    clear hK K
    try simp only [Act.put, List.setIfInBounds_toArray, List.set_cons_zero, List.set_cons_succ]
    refine wpAnyH_ready (rs := [6]) (by kernel_rfl) (by simp) ?_
    refine AllReadyH.cons (o := _) rfl (fun K hK => ?_) ?_
    · go_simp
      refine hK.out _ _ (by go_keep) (fun hHeld => ?_)
      clear hK K
      try simp only [Act.put, List.setIfInBounds_toArray, List.set_cons_zero, List.set_cons_succ]
      refine wpAnyH_ready (rs := [7]) (by kernel_rfl) (by simp) ?_
      refine AllReadyH.cons (o := _) rfl (fun K hK => ?_) ?_
      · rw [show ∀ o, (W1.alloc o).drew = W1.drew.alloc o from fun _ => rfl]; refine Kd.R_append_step k40 w0.heap.size (by simp [Region.wanted]) (.tmp 9) (.tmp 11) 30 40 (.agg #[.int .i64 0, .string ⟨#[]⟩, .string ⟨#[]⟩, .bool false, .int .i64 0, .int .i64 0]) 64 rfl Tryd.underlying30 info40 rfl (by decide) (by decide) v code x [.int .i64 x.f0, .string x.f1, .string x.f2, .bool x.f3, .int .i64 x.f4, .int .i64 x.f5] (fun k => k ≠ g) (fun k => k ≠ g ∧ some k ≠ v.ownBlock) rfl rfl (k40_mkM _ _ _ x) (fun k hk => hk) (fun k hk e => Nat.lt_irrefl g (Nat.lt_of_lt_of_le ltg (e ▸ hk))) hS1.out.drew.st.own hS1.out.drew.st.bel hS1.out.drew.st.bel.size hlen ?_; intro v1 w3 h1 hB1 hg1 hr1; obtain ⟨A1, c1', rfl⟩ := Kd.R_slice h1; have hX := Aside0.mk (hS1.out.drew.appended h1 hB1 hg1 hr1); simp only [List.length_append, List.length_cons, List.length_nil, Nat.zero_add] at hX; have hbg := blk_grown hS1.out.drew.st.blk hg1 (fun e => (hS1.out.drew.st.own.1 g e.symm) rfl); have hbb := blk_grown (w := W1.drew) (g := w.heap.size) hb1.out hg1 (fun e => Nat.lt_irrefl _ (own_lt (Kd.R_own hS.out.own).choose_spec _ e.symm)); clear c0 f0 n0 n1 n2 n3 n4 n5 h1 hB1 hg1 hr1; have c0 := blk_cell hbg 0; have f0 := blk_frozen hbg 0; have n0 : w3.cell? ⟨w.heap.size, 0, none⟩ = some (.int .i64 x.f0) := blk_cell hbb 0; have n1 : w3.cell? ⟨w.heap.size, 1, none⟩ = some (.string x.f1) := blk_cell hbb 1; have n2 : w3.cell? ⟨w.heap.size, 2, none⟩ = some (.string x.f2) := blk_cell hbb 2; have n3 : w3.cell? ⟨w.heap.size, 3, none⟩ = some (.bool x.f3) := blk_cell hbb 3; have n4 : w3.cell? ⟨w.heap.size, 4, none⟩ = some (.int .i64 x.f4) := blk_cell hbb 4; have n5 : w3.cell? ⟨w.heap.size, 5, none⟩ = some (.int .i64 x.f5) := blk_cell hbb 5
        refine hK.out _ _ (by exact ⟨n0, n1, n2, n3, n4, n5⟩) (fun hHeld => ?_)
        clear hK K
        try simp only [Act.put, List.setIfInBounds_toArray, List.set_cons_zero, List.set_cons_succ]
        refine wpAnyH_take (i := 8) (v := ?_) rfl (by kernel_rfl) (by kernel_rfl) (by kernel_rfl) (fun _ _ _ h => h) (Or.inl ⟨by rfl, ?_⟩) (by assumption) ?_
        rotate_left
        · intro w hSw; (try dsimp only at hSw); go_simp; try with_reducible rfl
        try simp only [Act.put, List.setIfInBounds_toArray, List.set_cons_zero, List.set_cons_succ]
        refine wpAnyH_take (i := 9) (v := ?_) rfl (by kernel_rfl) (by kernel_rfl) (by kernel_rfl) (fun _ _ _ h => h) (Or.inl ⟨by rfl, ?_⟩) (by assumption) ?_
        rotate_left
        · intro w hSw; (try dsimp only at hSw); go_simp; try with_reducible rfl
        try simp only [Act.put, List.setIfInBounds_toArray, List.set_cons_zero, List.set_cons_succ]
        refine wpAnyH_ready (rs := [10]) (by kernel_rfl) (by simp) ?_
        refine AllReadyH.cons (o := _) rfl (fun K hK => ?_) ?_
        · go_simp
          refine hK.out _ _ (by exact ⟨blk_cell ((Below.heap_setCell _ ⟨g, 0, none⟩ _ _ (Nat.ne_of_gt hlt)).trans hbb) 0, blk_cell ((Below.heap_setCell _ ⟨g, 0, none⟩ _ _ (Nat.ne_of_gt hlt)).trans hbb) 1, blk_cell ((Below.heap_setCell _ ⟨g, 0, none⟩ _ _ (Nat.ne_of_gt hlt)).trans hbb) 2, blk_cell ((Below.heap_setCell _ ⟨g, 0, none⟩ _ _ (Nat.ne_of_gt hlt)).trans hbb) 3, blk_cell ((Below.heap_setCell _ ⟨g, 0, none⟩ _ _ (Nat.ne_of_gt hlt)).trans hbb) 4, blk_cell ((Below.heap_setCell _ ⟨g, 0, none⟩ _ _ (Nat.ne_of_gt hlt)).trans hbb) 5⟩) (fun hHeld => ?_)
          clear hK K
          try simp only [Act.put, List.setIfInBounds_toArray, List.set_cons_zero, List.set_cons_succ]
          refine wpAnyH_done (by kernel_rfl) ?_ _
          clear c0 f0 n0 n1 n2 n3 n4 n5
          have c0 := blk_cell hX.out.st.blk 0
          have f0 := blk_frozen hX.out.st.blk 0
          have hm : IntKind.i64.wrap (((code.length + 1 : Nat) : Int) - 1) = (code.length : Int) := by rw [IntKind.wrap_i64]; omega
          go_wp2_with fail
          go_ret
          exact ⟨rfl, _, hX.out⟩
        exact AllReadyH.nil
      exact AllReadyH.nil
    exact AllReadyH.nil
  refine AllReadyH.cons (o := _) rfl (fun K hK => ?_) ?_
  · go_simp
    refine hK.out _ _ (by go_keep) (fun hHeld => ?_)
    clear hK K
    try simp only [Act.put, List.setIfInBounds_toArray, List.set_cons_zero, List.set_cons_succ]
    refine wpAnyH_ready (rs := [4]) (by kernel_rfl) (by simp) ?_
    refine AllReadyH.cons (o := _) rfl (fun K hK => ?_) ?_
    · go_simp
      refine hK.out _ _ (by first | exact hHeld | go_keep) (fun hHeld => ?_)
      clear hK K
      try simp only [Act.put, List.setIfInBounds_toArray, List.set_cons_zero, List.set_cons_succ]
      refine wpAnyH_ready (rs := [7]) (by kernel_rfl) (by simp) ?_
      refine AllReadyH.cons (o := _) rfl (fun K hK => ?_) ?_
      · rw [show ∀ o, (W1.alloc o).drew = W1.drew.alloc o from fun _ => rfl]; refine Kd.R_append_step k40 w0.heap.size (by simp [Region.wanted]) (.tmp 9) (.tmp 11) 30 40 (.agg #[.int .i64 0, .string ⟨#[]⟩, .string ⟨#[]⟩, .bool false, .int .i64 0, .int .i64 0]) 64 rfl Tryd.underlying30 info40 rfl (by decide) (by decide) v code x [.int .i64 x.f0, .string x.f1, .string x.f2, .bool x.f3, .int .i64 x.f4, .int .i64 x.f5] (fun k => k ≠ g) (fun k => k ≠ g ∧ some k ≠ v.ownBlock) rfl rfl (k40_mkM _ _ _ x) (fun k hk => hk) (fun k hk e => Nat.lt_irrefl g (Nat.lt_of_lt_of_le ltg (e ▸ hk))) hS1.out.drew.st.own hS1.out.drew.st.bel hS1.out.drew.st.bel.size hlen ?_; intro v1 w3 h1 hB1 hg1 hr1; obtain ⟨A1, c1', rfl⟩ := Kd.R_slice h1; have hX := Aside0.mk (hS1.out.drew.appended h1 hB1 hg1 hr1); simp only [List.length_append, List.length_cons, List.length_nil, Nat.zero_add] at hX; have hbg := blk_grown hS1.out.drew.st.blk hg1 (fun e => (hS1.out.drew.st.own.1 g e.symm) rfl); have hbb := blk_grown (w := W1.drew) (g := w.heap.size) hb1.out hg1 (fun e => Nat.lt_irrefl _ (own_lt (Kd.R_own hS.out.own).choose_spec _ e.symm)); clear c0 f0 n0 n1 n2 n3 n4 n5 h1 hB1 hg1 hr1; have c0 := blk_cell hbg 0; have f0 := blk_frozen hbg 0; have n0 : w3.cell? ⟨w.heap.size, 0, none⟩ = some (.int .i64 x.f0) := blk_cell hbb 0; have n1 : w3.cell? ⟨w.heap.size, 1, none⟩ = some (.string x.f1) := blk_cell hbb 1; have n2 : w3.cell? ⟨w.heap.size, 2, none⟩ = some (.string x.f2) := blk_cell hbb 2; have n3 : w3.cell? ⟨w.heap.size, 3, none⟩ = some (.bool x.f3) := blk_cell hbb 3; have n4 : w3.cell? ⟨w.heap.size, 4, none⟩ = some (.int .i64 x.f4) := blk_cell hbb 4; have n5 : w3.cell? ⟨w.heap.size, 5, none⟩ = some (.int .i64 x.f5) := blk_cell hbb 5
        refine hK.out _ _ (by exact ⟨n0, n1, n2, n3, n4, n5⟩) (fun hHeld => ?_)
        clear hK K
        try simp only [Act.put, List.setIfInBounds_toArray, List.set_cons_zero, List.set_cons_succ]
        refine wpAnyH_take (i := 8) (v := ?_) rfl (by kernel_rfl) (by kernel_rfl) (by kernel_rfl) (fun _ _ _ h => h) (Or.inl ⟨by rfl, ?_⟩) (by assumption) ?_
        rotate_left
        · intro w hSw; (try dsimp only at hSw); go_simp; try with_reducible rfl
        try simp only [Act.put, List.setIfInBounds_toArray, List.set_cons_zero, List.set_cons_succ]
        refine wpAnyH_take (i := 9) (v := ?_) rfl (by kernel_rfl) (by kernel_rfl) (by kernel_rfl) (fun _ _ _ h => h) (Or.inl ⟨by rfl, ?_⟩) (by assumption) ?_
        rotate_left
        · intro w hSw; (try dsimp only at hSw); go_simp; try with_reducible rfl
        try simp only [Act.put, List.setIfInBounds_toArray, List.set_cons_zero, List.set_cons_succ]
        refine wpAnyH_ready (rs := [10]) (by kernel_rfl) (by simp) ?_
        refine AllReadyH.cons (o := _) rfl (fun K hK => ?_) ?_
        · go_simp
          refine hK.out _ _ (by exact ⟨blk_cell ((Below.heap_setCell _ ⟨g, 0, none⟩ _ _ (Nat.ne_of_gt hlt)).trans hbb) 0, blk_cell ((Below.heap_setCell _ ⟨g, 0, none⟩ _ _ (Nat.ne_of_gt hlt)).trans hbb) 1, blk_cell ((Below.heap_setCell _ ⟨g, 0, none⟩ _ _ (Nat.ne_of_gt hlt)).trans hbb) 2, blk_cell ((Below.heap_setCell _ ⟨g, 0, none⟩ _ _ (Nat.ne_of_gt hlt)).trans hbb) 3, blk_cell ((Below.heap_setCell _ ⟨g, 0, none⟩ _ _ (Nat.ne_of_gt hlt)).trans hbb) 4, blk_cell ((Below.heap_setCell _ ⟨g, 0, none⟩ _ _ (Nat.ne_of_gt hlt)).trans hbb) 5⟩) (fun hHeld => ?_)
          clear hK K
          try simp only [Act.put, List.setIfInBounds_toArray, List.set_cons_zero, List.set_cons_succ]
          refine wpAnyH_done (by kernel_rfl) ?_ _
          clear c0 f0 n0 n1 n2 n3 n4 n5
          have c0 := blk_cell hX.out.st.blk 0
          have f0 := blk_frozen hX.out.st.blk 0
          have hm : IntKind.i64.wrap (((code.length + 1 : Nat) : Int) - 1) = (code.length : Int) := by rw [IntKind.wrap_i64]; omega
          go_wp2_with fail
          go_ret
          exact ⟨rfl, _, hX.out⟩
        exact AllReadyH.nil
      exact AllReadyH.nil
    exact AllReadyH.nil
  exact AllReadyH.nil
end Go.Proofs.YtkpnfejfbmandaaDoor.Px
namespace Go.Proofs.YtkpnfejfbmandaaDoor.Px
open Go.RowKit Go.Proofs.YtkpnfejfbmandaaDoorW.PrintWords Go.Proofs.YtkpnfejfbmandaaDoorW.PrintLast Go.Proofs.YtkpnfejfbmandaaDoorW.PrintMore
set_option linter.unusedVariables false
set_option linter.unusedSimpArgs false
def setTo (l : List S40) (i : Nat) (q : Int) : List S40 := l.modify i (fun x => { x with f5 := q })
theorem setTo_length (l : List S40) (i : Nat) (q : Int) : (setTo l i q).length = l.length := by simp [setTo]
theorem k40_put5 {W : World} {base : Nat} {ok : Nat → Prop} {v : Value} {xs : List S40} (h : Kd.R k40 40 W base ok v xs) (i : Nat) (hi : i < xs.length) (q : Int) :
    ∃ g c, v = .slice (some ⟨g, 0, none⟩) xs.length c ∧ ok g ∧ W.frozen? ⟨g, i * 6 + 5, none⟩ = false ∧ (∃ u, W.cell? ⟨g, i * 6 + 5, none⟩ = some u) ∧
      Kd.R k40 40 (W.setCell ⟨g, i * 6 + 5, none⟩ (.int .i64 q)) base ok v (setTo xs i q) ∧ W.grownBy (W.setCell ⟨g, i * 6 + 5, none⟩ (.int .i64 q)) (some g) := by
  obtain ⟨h0, inner, hown, hr⟩ := h
  have hown0 := hown
  rcases hown.2 with ⟨_, h2⟩ | ⟨g, c, cur, hv, hb, hg, hnc, hcm, hcs, htake⟩
  · omega
  subst hv
  have hs := hown.stored (i * 6 + 5) (.int .i64 q)
  have hsz : i * 6 + 5 < cur.size := by
    have : k40.sz = 6 := rfl
    rw [hcs, this]; omega
  refine ⟨g, c, rfl, h0 g rfl, blk_frozen hg _, ⟨cur[i * 6 + 5], (blk_cell hg _).trans (Array.getElem?_eq_getElem hsz)⟩, ⟨h0, inner.set (i * 6 + 5) (.int .i64 q), by rw [setTo_length]; exact hs.1, ?_⟩, hs.2⟩
  refine ⟨by rw [List.length_set, setTo_length]; exact hr.1, fun j p hj => ?_⟩
  have hj' : xs[j]?.map (fun x => if i = j then { x with f5 := q } else x) = some p := by
    rw [← hj]; simp [setTo, List.getElem?_modify]
  obtain ⟨x, hx, rfl⟩ := Option.map_eq_some_iff.1 hj'
  have hM := hr.2 j x hx
  have hx1 := (List.getElem?_eq_some_iff.1 hx).1
  have hil : inner.length = xs.length * 6 := hr.1
  by_cases hij : i = j
  · subst hij
    rw [if_pos rfl]
    have e6 : ((inner.set (i * 6 + 5) (.int .i64 q)).drop (i * k40.sz)).take k40.sz = [.int .i64 x.f0, .string x.f1, .string x.f2, .bool x.f3, .int .i64 x.f4, .int .i64 q] := by
      show ((inner.set (i * 6 + 5) (.int .i64 q)).drop (i * 6)).take 6 = _
      have hM6 := k40_openM hM
      rw [show k40.sz = 6 from rfl] at hM6
      rw [List.drop_set, if_neg (by omega), show i * 6 + 5 - i * 6 = 5 from by omega, List.take_set, hM6]
      rfl
    rw [e6]
    exact k40_mkM _ _ _ { x with f5 := q }
  · rw [if_neg hij]
    have e6 : ((inner.set (i * 6 + 5) (.int .i64 q)).drop (j * k40.sz)).take k40.sz = (inner.drop (j * k40.sz)).take k40.sz := by
      show ((inner.set (i * 6 + 5) (.int .i64 q)).drop (j * 6)).take 6 = (inner.drop (j * 6)).take 6
      apply List.ext_getElem?
      intro k
      rw [List.getElem?_take, List.getElem?_take]
      split
      · rw [List.getElem?_drop, List.getElem?_drop, List.getElem?_set, if_neg (by omega)]
      · rfl
    rw [e6, k40_openM hM]
    exact k40_mkM _ _ _ x
theorem KOut.landed {w0 w g b1 b2 mb v0 v code A c left W} (h : KOut w0 w g b1 b2 mb v0 v code A c left W) {gr : Nat} {p : Addr} {u : Value} {code2 : List S40} (hv : v.ownBlock = some gr) (hp : p.block = gr) (h1 : Kd.R k40 40 (W.setCell p u) w0.heap.size (fun k => k ≠ g) v code2) (hg : W.grownBy (W.setCell p u) (some gr)) : KOut w0 w g b1 b2 mb v0 v code2 A c left (W.setCell p u) :=
  ⟨⟨blk_grown h.st.blk hg (fun e => h.st.own.1 g (by rw [hv, ← e]) rfl), h1, h.st.lf, h.st.le, h.st.bel.setCell (by rw [hp]; exact (own_base (Kd.R_own h.st.own).choose_spec gr hv)) _, h.st.ge⟩, h.keep.trans (Kp3.grown (by rw [hv]; exact hg)) h.row, h.row⟩
set_option maxHeartbeats 4000000 in
set_option maxRecDepth 100000 in
theorem land_any {w0 g b1 b2 v code A c left} (i : Nat) (hi : i < code.length) (w : World) (hS : KIn w0 g b1 b2 v code A c left w) :
    Calls Tryd.prog 93 #[.pointer (some ⟨g, 0, none⟩), .int .i64 i] w fun e w' => e = .returned (.tuple #[]) ∧ KOut w0 w g b1 b2 none v v (setTo code i code.length) A c left w' := by
  obtain ⟨gr, cr, rfl, hgr, hfr, ⟨u, hcu⟩, hR, hG⟩ := k40_put5 hS.own i hi code.length
  have c0 : w.cell? ⟨g, 0, none⟩ = some (.slice (some ⟨gr, 0, none⟩) code.length cr) := blk_cell hS.blk 0
  have f0 := blk_frozen hS.blk 0
  have hlt := blk_lt hS.blk
  have hi0 : (0 : Int) ≤ (i : Int) := Int.natCast_nonneg i
  have hi1 : (i : Int) < (code.length : Int) := by omega
  have hD := Aside0.mk (hS.out (mb := none)).drew
  replace hR := Aside0.mk hR
  replace hG := Aside0.mk hG
  replace hS := Aside0.mk hS
  go_enter Tryd.func93, Tryd.ntmps93
  go_region_held3 (fun w' => w'.cell? ⟨g, 0, none⟩ = some (.slice (some ⟨gr, 0, none⟩) code.length cr)) (first | exact c0 | exact (cell_far (fun e => hgr e.symm) _).trans c0 | go_keep) (fail)
  all_goals exact Go.Great.bodyPost_end0 rfl rfl ⟨rfl, (hS.out.out.landed (gr := gr) (p := ⟨gr, i * 6 + 5, none⟩) rfl rfl hR.out hG.out).drew⟩
end Go.Proofs.YtkpnfejfbmandaaDoor.Px
namespace Go.Proofs.YtkpnfejfbmandaaDoor.Px
open Go.RowKit Go.Proofs.YtkpnfejfbmandaaDoorW.PrintWords Go.Proofs.YtkpnfejfbmandaaDoorW.PrintLast Go.Proofs.YtkpnfejfbmandaaDoorW.PrintMore
open Go.Maps Go.ChangeMaps Go.MapKept
set_option linter.unusedVariables false
set_option linter.unusedSimpArgs false
abbrev e0 : ByteArray := ⟨#[]⟩
def KS.emit (st : KS) (x : S40) : KS := ⟨st.code ++ [x], st.left, st.calls⟩
def KS.land (st : KS) (i : Nat) : KS := ⟨setTo st.code i st.code.length, st.left, st.calls⟩
mutual
def gL : List S78 → KS → KS
  | [], st => st
  | x :: xs, st => gL xs (gN x st)
def gN : S78 → KS → KS
  | ⟨k, _, S, nm, f4, f5, b, l⟩, st =>
    if k = 0 then st.emit ⟨0, S, e0, false, 0, 0⟩
    else if k = 1 then ⟨st.code ++ [⟨1, e0, nm, false, rdOf 0 st.left 0, 0⟩], st.left.drop 1, st.calls⟩
    else if k = 2 then
      (if f5 then (((gL l (((gL b (st.emit ⟨2, e0, nm, false, 0, 0⟩)).emit ⟨3, e0, e0, false, 0, 0⟩).land st.code.length)).land (gL b (st.emit ⟨2, e0, nm, false, 0, 0⟩)).code.length))
      else (gL b (st.emit ⟨2, e0, nm, false, 0, 0⟩)).land st.code.length)
    else if k = 3 then ((gL b (st.emit ⟨4, e0, nm, false, 0, 0⟩)).emit ⟨5, e0, e0, false, 0, (st.code.length : Int) + 1⟩).land st.code.length
    else if k = 4 then ⟨st.code ++ [⟨6, e0, nm, f4, 0, 0⟩], st.left, st.calls ++ [((st.code.length : Int), S)]⟩
    else if k = 5 then st.emit ⟨8, e0, e0, false, 0, 0⟩
    else st
end
theorem gN_at (x : S78) (st : KS) : gN x st =
    if x.f0 = 0 then st.emit ⟨0, x.f2, e0, false, 0, 0⟩
    else if x.f0 = 1 then ⟨st.code ++ [⟨1, e0, x.f3, false, rdOf 0 st.left 0, 0⟩], st.left.drop 1, st.calls⟩
    else if x.f0 = 2 then
      (if x.f5 then (((gL x.f7 (((gL x.f6 (st.emit ⟨2, e0, x.f3, false, 0, 0⟩)).emit ⟨3, e0, e0, false, 0, 0⟩).land st.code.length)).land (gL x.f6 (st.emit ⟨2, e0, x.f3, false, 0, 0⟩)).code.length))
      else (gL x.f6 (st.emit ⟨2, e0, x.f3, false, 0, 0⟩)).land st.code.length)
    else if x.f0 = 3 then ((gL x.f6 (st.emit ⟨4, e0, x.f3, false, 0, 0⟩)).emit ⟨5, e0, e0, false, 0, (st.code.length : Int) + 1⟩).land st.code.length
    else if x.f0 = 4 then ⟨st.code ++ [⟨6, e0, x.f3, x.f4, 0, 0⟩], st.left, st.calls ++ [((st.code.length : Int), x.f2)]⟩
    else if x.f0 = 5 then st.emit ⟨8, e0, e0, false, 0, 0⟩
    else st := by cases x; rw [gN]
mutual
def eL : List S78 → Nat
  | [] => 0
  | x :: xs => eN x + eL xs
def eN : S78 → Nat
  | ⟨k, _, _, _, _, f5, b, l⟩ => if k = 1 then 1 else if k = 2 then eL b + (if f5 then eL l else 0) else if k = 3 then eL b else 0
end
mutual
theorem gL_left : ∀ (l : List S78) (st : KS), (gL l st).left = st.left.drop (eL l)
  | [], st => by simp [gL, eL]
  | x :: xs, st => by rw [gL, gL_left xs, gN_left x, List.drop_drop, eL]
theorem gN_left : ∀ (x : S78) (st : KS), (gN x st).left = st.left.drop (eN x)
  | ⟨k, at_, S, nm, f4, f5, b, l⟩, st => by
    rw [gN, eN]
    by_cases h0 : k = 0
    · simp [h0, KS.emit]
    by_cases h1 : k = 1
    · simp [h1]
    by_cases h2 : k = 2
    · cases f5 <;> simp [h2, KS.emit, KS.land, gL_left b, gL_left l]
    by_cases h3 : k = 3
    · simp [h3, KS.emit, KS.land, gL_left b]
    by_cases h4 : k = 4
    · simp [h4]
    by_cases h5 : k = 5
    · simp [h5, KS.emit]
    simp [h0, h1, h2, h3, h4, h5]
end
mutual
theorem gL_len : ∀ (l : List S78) (st : KS), st.code.length ≤ (gL l st).code.length ∧ (gL l st).code.length ≤ st.code.length + 2 * nL l
  | [], st => by simp [gL, nL]
  | x :: xs, st => by
    have h1 := gN_len x st
    have h2 := gL_len xs (gN x st)
    rw [gL, nL_cons]; omega
theorem gN_len : ∀ (x : S78) (st : KS), st.code.length ≤ (gN x st).code.length ∧ (gN x st).code.length ≤ st.code.length + 2 * nN x
  | ⟨k, at_, S, nm, f4, f5, b, l⟩, st => by
    rw [gN, nN_eq]
    by_cases h0 : k = 0
    · simp [h0, KS.emit]; omega
    by_cases h1 : k = 1
    · simp [h1]; omega
    by_cases h2 : k = 2
    · have hb := gL_len b (st.emit ⟨2, e0, nm, false, 0, 0⟩)
      cases f5
      · simp only [h2, KS.emit, KS.land, setTo_length, List.length_append, List.length_singleton, if_true, if_false, Bool.false_eq_true, show ((2 : Int) = 0) = False by decide, show ((2 : Int) = 1) = False by decide] at hb ⊢; omega
      · have hl := gL_len l (((gL b (st.emit ⟨2, e0, nm, false, 0, 0⟩)).emit ⟨3, e0, e0, false, 0, 0⟩).land st.code.length)
        simp only [h2, KS.emit, KS.land, setTo_length, List.length_append, List.length_singleton, if_true, if_false, show ((2 : Int) = 0) = False by decide, show ((2 : Int) = 1) = False by decide] at hb hl ⊢; omega
    by_cases h3 : k = 3
    · have hb := gL_len b (st.emit ⟨4, e0, nm, false, 0, 0⟩)
      simp only [h3, KS.emit, KS.land, setTo_length, List.length_append, List.length_singleton, if_true, if_false, show ((3 : Int) = 0) = False by decide, show ((3 : Int) = 1) = False by decide, show ((3 : Int) = 2) = False by decide] at hb ⊢; omega
    by_cases h4 : k = 4
    · simp [h4]; omega
    by_cases h5 : k = 5
    · simp [h5, KS.emit]; omega
    simp [h0, h1, h2, h3, h4, h5]
end
theorem law3 : Keyed Tryd.prog 3 := Maps.int_keyed Tryd.underlying3
def mpD (l : List (Int × ByteArray)) : DataW Unit := l.foldl (fun D p => D.put (.int .i64 p.1) (.lit (.string p.2.data.toList))) (.map [])
def MpC (w : World) (b : Nat) (l : List (Int × ByteArray)) : Prop := w.ownsMap Tryd.prog 3 (plainElem Tryd.prog 9) b l.length (mpD l)
theorem MpC.at_ {w b l} (h : MpC w b l) : ∃ es clock, w.heap[b]? = some (.map es clock) := by
  obtain ⟨es, clock, h1, -⟩ := h
  exact ⟨es, clock, h1⟩
theorem MpC.move {w w1 b l} (h : MpC w b l) (hb : w1.heap[b]? = w.heap[b]?) : MpC w1 b l := by
  obtain ⟨es, clock, h1, h2, h3, h4⟩ := h
  exact ⟨es, clock, hb.trans h1, h2, h3, h4⟩
theorem MpC.lt {w b l} (h : MpC w b l) : b < w.heap.size := by
  obtain ⟨es, clock, h1⟩ := h.at_
  exact (Array.getElem?_eq_some_iff.1 h1).1
theorem MpC.alloc {w b l} (h : MpC w b l) (o : Obj) : MpC (w.alloc o) b l := h.move (Below.heap_alloc w o b h.lt)
theorem MpC.drew {w b l} (h : MpC w b l) : MpC w.drew b l := h.move rfl
theorem MpC.ne_g {w b l w0 g b1 b2 v code A c left} (h : MpC w b l) (hS : KIn w0 g b1 b2 v code A c left w) : b ≠ g := by
  rintro rfl
  obtain ⟨es, clock, h1⟩ := h.at_
  rw [hS.blk] at h1
  cases h1
theorem MpC.ne_row {w b l w0 g b1 b2 v code A c left} (h : MpC w b l) (hS : KIn w0 g b1 b2 v code A c left w) : some b ≠ v.ownBlock := by
  intro e
  obtain ⟨es, clock, h1⟩ := h.at_
  obtain ⟨_, inner, ho, _⟩ := hS.own
  rcases ho.2 with ⟨rfl, _⟩ | ⟨g', cap, cur, rfl, _, hh, _⟩
  · cases e
  · obtain rfl : b = g' := by simpa [Value.ownBlock] using e
    rw [hh] at h1
    cases h1
theorem MpC.kept {w b l w0 g b1 b2 v v2 code A c left code2 A2 c2 left2 W} (h : MpC w b l) (hS : KIn w0 g b1 b2 v code A c left w) (hO : KOut w0 w g b1 b2 none v v2 code2 A2 c2 left2 W) : MpC W b l :=
  h.move (hO.keep.2 b h.lt (h.ne_g hS) (by simp) (h.ne_row hS))
abbrev gNode.Con (x : S78) : Prop := ∀ (w0 : World) (g b1 b2 : Nat) (v : Value) (st : KS) (A A6 A7 : Option Addr) (c c6 c7 : Nat) (w : World), KIn w0 g b1 b2 v st.code A c st.left w → MpC w b2 st.calls → w0.heap.size ≤ b2 → Kd.C k78 w0 A6 x.f6.length x.f6 → x.f6.length ≤ c6 → Kd.C k78 w0 A7 x.f7.length x.f7 → x.f7.length ≤ c7 → smN x → eN x ≤ st.left.length → st.calls.length + nN x ≤ 1000000 → st.code.length + 2 * nN x ≤ 1000000 →
  Calls Tryd.prog 80 #[.pointer (some ⟨g, 0, none⟩), .agg #[.int .i64 x.f0, .int .i64 x.f1, .string x.f2, .string x.f3, .bool x.f4, .bool x.f5, .slice A6 x.f6.length c6, .slice A7 x.f7.length c7]] w fun e w' =>
    e = .returned (.tuple #[]) ∧ ∃ v' A' c', KOut w0 w g b1 b2 (some b2) v v' (gN x st).code A' c' (gN x st).left w' ∧ MpC w' b2 (gN x st).calls
abbrev gList.Con (l : List S78) : Prop := ∀ (w0 : World) (g b1 b2 : Nat) (v : Value) (st : KS) (A B : Option Addr) (c cb : Nat) (w : World), KIn w0 g b1 b2 v st.code A c st.left w → MpC w b2 st.calls → w0.heap.size ≤ b2 → Kd.C k78 w0 B l.length l → l.length ≤ cb → smL l → eL l ≤ st.left.length → st.calls.length + nL l ≤ 1000000 → st.code.length + 2 * nL l ≤ 1000000 →
  Calls Tryd.prog 58 #[.pointer (some ⟨g, 0, none⟩), .slice B l.length cb] w fun e w' =>
    e = .returned (.tuple #[]) ∧ ∃ v' A' c', KOut w0 w g b1 b2 (some b2) v v' (gL l st).code A' c' (gL l st).left w' ∧ MpC w' b2 (gL l st).calls
set_option maxHeartbeats 4000000 in
set_option maxRecDepth 100000 in
theorem gNode.text (x : S78) (hk : x.f0 = 0) : gNode.Con x := by
  intro w0 g b1 b2 v st A A6 A7 c c6 c7 w hS hM hb2 hC6 hc6 hC7 hc7 hsm he hlc hlen
  rw [gN_at, if_pos hk]
  rw [hk]
  have hcl : st.code.length ≤ 1000000 := by omega
  have hem := Aside0.mk (fun o => emit_any ⟨0, x.f2, ⟨#[]⟩, false, 0, 0⟩ (w.alloc o) (hS.alloc o) hcl)
  have hS1 := Aside0.mk (fun o => (hS.out (mb := some b2)).alloc o)
  have hM1 := Aside0.mk (fun o => hM.alloc o)
  have hSA := Aside0.mk (fun o => hS.alloc o)
  clear hS hM hC6 hC7 hsm
  go_enter Tryd.func80, Tryd.ntmps80
  go_wp2_with (go_at_call 59; refine (hem.out _).mono ?_; rintro e w2 ⟨rfl, v2, h2⟩; have hMk := Aside0.mk ((hM1.out _).kept (hSA.out _) h2); replace h2 := Aside0.mk ((hS1.out _).call (h2.more _)))
  all_goals exact Go.Great.bodyPost_end0 rfl rfl ⟨rfl, _, _, _, h2.out, hMk.out⟩
end Go.Proofs.YtkpnfejfbmandaaDoor.Px
namespace Go.Proofs.YtkpnfejfbmandaaDoor.Px
open Go.RowKit Go.Proofs.YtkpnfejfbmandaaDoorW.PrintWords Go.Proofs.YtkpnfejfbmandaaDoorW.PrintLast Go.Proofs.YtkpnfejfbmandaaDoorW.PrintMore
open Go.Maps Go.ChangeMaps Go.MapKept
set_option linter.unusedVariables false
set_option linter.unusedSimpArgs false
set_option maxHeartbeats 4000000 in
set_option maxRecDepth 100000 in
theorem gNode.five (x : S78) (hk : x.f0 = 5) : gNode.Con x := by
  intro w0 g b1 b2 v st A A6 A7 c c6 c7 w hS hM hb2 hC6 hc6 hC7 hc7 hsm he hlc hlen
  rw [gN_at, if_neg (by rw [hk]; decide), if_neg (by rw [hk]; decide), if_neg (by rw [hk]; decide), if_neg (by rw [hk]; decide), if_neg (by rw [hk]; decide), if_pos hk]
  rw [hk]
  have hcl : st.code.length ≤ 1000000 := by omega
  have hem := Aside0.mk (fun o => emit_any ⟨8, ⟨#[]⟩, ⟨#[]⟩, false, 0, 0⟩ (w.alloc o) (hS.alloc o) hcl)
  have hS1 := Aside0.mk (fun o => (hS.out (mb := some b2)).alloc o)
  have hM1 := Aside0.mk (fun o => hM.alloc o)
  have hSA := Aside0.mk (fun o => hS.alloc o)
  clear hS hM hC6 hC7 hsm
  go_enter Tryd.func80, Tryd.ntmps80
  go_wp2_with (go_at_call 59; refine (hem.out _).mono ?_; rintro e w2 ⟨rfl, v2, h2⟩; have hMk := Aside0.mk ((hM1.out _).kept (hSA.out _) h2); replace h2 := Aside0.mk ((hS1.out _).call (h2.more _)))
  all_goals exact Go.Great.bodyPost_end0 rfl rfl ⟨rfl, _, _, _, h2.out, hMk.out⟩
set_option maxHeartbeats 4000000 in
set_option maxRecDepth 100000 in
theorem gNode.other (x : S78) (hk : x.f0 ≠ 0 ∧ x.f0 ≠ 1 ∧ x.f0 ≠ 2 ∧ x.f0 ≠ 3 ∧ x.f0 ≠ 4 ∧ x.f0 ≠ 5) : gNode.Con x := by
  intro w0 g b1 b2 v st A A6 A7 c c6 c7 w hS hM hb2 hC6 hc6 hC7 hc7 hsm he hlc hlen
  obtain ⟨k0, k1, k2, k3, k4, k5⟩ := hk
  rw [gN_at, if_neg k0, if_neg k1, if_neg k2, if_neg k3, if_neg k4, if_neg k5]
  have e0 : (x.f0 == 0) = false := by simp [k0]
  have e1 : (x.f0 == 1) = false := by simp [k1]
  have e2 : (x.f0 == 2) = false := by simp [k2]
  have e3 : (x.f0 == 3) = false := by simp [k3]
  have e4 : (x.f0 == 4) = false := by simp [k4]
  have e5 : (x.f0 == 5) = false := by simp [k5]
  have hS1 := Aside0.mk (fun o => (hS.out (mb := some b2)).alloc o)
  have hM1 := Aside0.mk (fun o => hM.alloc o)
  clear hS hM hC6 hC7 hsm k0 k1 k2 k3 k4 k5
  go_enter Tryd.func80, Tryd.ntmps80
  go_wp2_with fail
  all_goals exact Go.Great.bodyPost_end0 rfl rfl ⟨rfl, _, _, _, hS1.out _, hM1.out _⟩
theorem KIn.less {w0 g b1 b2 v code w} {A : Option Addr} {c : Nat} {left : List Int} (h : KIn w0 g b1 b2 v code A c left w) (hl : 0 < left.length) :
    KIn w0 g b1 b2 v code (if c = 1 then A else A.map (·.add 1)) (c - 1) (left.drop 1) (w.setCell ⟨g, 2, none⟩ (.slice (if c = 1 then A else A.map (·.add 1)) (left.length - 1) (c - 1))) := by
  refine ⟨?_, Kd.R_far h.own (fun _ h => h) _, Kd.C_drop (m := 1) h.lf (by omega) h.le, by rw [List.length_drop]; have := h.le; omega, h.bel.setCell h.ge _, h.ge⟩
  have := blk_set h.blk 2 (.slice (if c = 1 then A else A.map (·.add 1)) (left.length - 1) (c - 1))
  rw [List.length_drop]
  exact this
theorem KOut.less {w0 w g b1 b2 mb v0 v code W} {A : Option Addr} {c : Nat} {left : List Int} (h : KOut w0 w g b1 b2 mb v0 v code A c left W) (hl : 0 < left.length) :
    KOut w0 w g b1 b2 mb v0 v code (if c = 1 then A else A.map (·.add 1)) (c - 1) (left.drop 1) (W.setCell ⟨g, 2, none⟩ (.slice (if c = 1 then A else A.map (·.add 1)) (left.length - 1) (c - 1))) := ⟨h.st.less hl, h.keep.set _ _, h.row⟩
theorem KOut.boxed {w0 w : World} {g b1 b2 : Nat} {v v2 : Value} {code A c left code2 A2 c2 left2 W} {cs : Array Value} {t k : Nat} (h : KIn w0 g b1 b2 v code A c left w) (hO : KOut w0 w g b1 b2 none v v2 code2 A2 c2 left2 W) (hb : w.heap[k]? = some (.cells cs t (0, 0))) (ht : t ≠ 122) (ht2 : t ≠ 40) : W.heap[k]? = some (.cells cs t (0, 0)) := by
  refine (hO.keep.2 k (blk_lt hb) ?_ (by simp) ?_).trans hb
  · rintro rfl
    rw [h.blk] at hb
    cases hb
    exact ht rfl
  · intro e
    obtain ⟨_, inner, ho, _⟩ := h.own
    rcases ho.2 with ⟨rfl, _⟩ | ⟨g', cap, cur, rfl, _, hh, _⟩
    · cases e
    · obtain rfl : k = g' := by simpa [Value.ownBlock] using e
      rw [hh] at hb
      cases hb
      exact ht2 rfl
end Go.Proofs.YtkpnfejfbmandaaDoor.Px
namespace Go.Proofs.YtkpnfejfbmandaaDoor.Px
open Go.RowKit Go.Proofs.YtkpnfejfbmandaaDoorW.PrintWords Go.Proofs.YtkpnfejfbmandaaDoorW.PrintLast Go.Proofs.YtkpnfejfbmandaaDoorW.PrintMore
open Go.Maps Go.ChangeMaps Go.MapKept
set_option linter.unusedVariables false
set_option linter.unusedSimpArgs false
set_option maxHeartbeats 1000000 in
set_option maxRecDepth 100000 in
theorem gNode.print (x : S78) (hk : x.f0 = 1) : gNode.Con x := by
  intro w0 g b1 b2 v st A A6 A7 c c6 c7 w hS hM hb2 hC6 hc6 hC7 hc7 hsm he hlc hlen
  rw [gN_at, if_neg (by rw [hk]; decide), if_pos hk]
  rw [hk]
  have hl0 : 0 < st.left.length := by
    have : eN x = 1 := by cases x; simp only at hk; simp [eN, hk]
    omega
  have hcl : st.code.length ≤ 1000000 := by omega
  obtain ⟨ad, rfl, hp0⟩ := Kd.at_int hS.lf 0 (by decide) (by exact_mod_cast hl0)
  replace hp0 : w0.cell? ad = some (.int .i64 (rdOf 0 st.left 0)) := hp0
  have hp1 : w.cell? ad = some (.int .i64 (rdOf 0 st.left 0)) := (hS.bel.cell (World.block_lt_of_cell? _ _ hp0)).trans hp0
  obtain ⟨e, he0⟩ : ∃ e, e = rdOf 0 st.left 0 := ⟨_, rfl⟩
  rw [← he0] at hp0 hp1 ⊢
  replace he0 := Aside0.mk he0
  obtain ⟨W1, e1⟩ : ∃ W1, W1 = w.alloc (.cells #[.int .i64 x.f0, .int .i64 x.f1, .string x.f2, .string x.f3, .bool x.f4, .bool x.f5, .slice A6 x.f6.length c6, .slice A7 x.f7.length c7] 78) := ⟨_, rfl⟩
  have hSW : KIn w0 g b1 b2 v st.code (some ad) c st.left W1 := by rw [e1]; exact hS.alloc _
  have hOW := Aside0.mk (show KOut w0 w g b1 b2 (some b2) v v st.code (some ad) c st.left W1 from by rw [e1]; exact hS.out.alloc _)
  have hMW := Aside0.mk (show MpC W1 b2 st.calls from by rw [e1]; exact hM.alloc _)
  have hbx := Aside0.mk (show W1.heap[w.heap.size]? = some (.cells #[.int .i64 x.f0, .int .i64 x.f1, .string x.f2, .string x.f3, .bool x.f4, .bool x.f5, .slice A6 x.f6.length c6, .slice A7 x.f7.length c7] 78 (0, 0)) from by rw [e1]; exact blk_new _ _)
  have c2 : W1.cell? ⟨g, 2, none⟩ = some (.slice (some ad) st.left.length c) := blk_cell hSW.blk 2
  have n3 : W1.cell? ⟨w.heap.size, 3, none⟩ = some (.string x.f3) := blk_cell hbx.out 3
  have p0 : W1.cell? ad = some (.int .i64 e) := (hSW.bel.cell (World.block_lt_of_cell? _ _ hp0)).trans hp0
  have hl0' : (0 : Int) < (st.left.length : Int) := by exact_mod_cast hl0
  have hem := Aside0.mk (emit_any ⟨1, ⟨#[]⟩, x.f3, false, e, 0⟩ W1.drew hSW.drew hcl)
  have hlec := hS.le
  replace hSW := Aside0.mk hSW
  rw [hk] at e1
  clear hS hM hC6 hC7 hsm
  go_enter Tryd.func80, Tryd.ntmps80
  go_upto_region 5 with fail
  rw [← e1]
  clear e1
  go_region_held3 (fun w' => w'.cell? ⟨g, 2, none⟩ = some (.slice (some ad) st.left.length c) ∧ w'.cell? ⟨w.heap.size, 3, none⟩ = some (.string x.f3) ∧ w'.cell? ad = some (.int .i64 e)) (first | exact ⟨c2, n3, p0⟩ | go_keep) (first | (go_at_call 59; refine hem.out.mono ?_; rintro ee w2 ⟨rfl, v2, h2⟩; have hMk := Aside0.mk (hMW.out.drew.kept hSW.out.drew h2); have hb2 := KOut.boxed hSW.out.drew h2 (show W1.drew.heap[w.heap.size]? = _ from hbx.out) (by decide) (by decide); have hq : w2.cell? ad = some (.int .i64 e) := (h2.st.bel.cell (World.block_lt_of_cell? _ _ hp0)).trans hp0; replace h2 := Aside0.mk (hOW.out.drew.call (h2.more _)); clear c2 n3 p0; have c2 : w2.cell? ⟨g, 2, none⟩ = some (.slice (some ad) st.left.length c) := blk_cell h2.out.st.blk 2; have n3 : w2.cell? ⟨w.heap.size, 3, none⟩ = some (.string x.f3) := blk_cell hb2 3; have p0 := hq; clear hb2 hq))
  clear n3 p0 hem hMW hOW hSW hbx
  have f2 := blk_frozen h2.out.st.blk 2
  have hm := Aside0.mk (hMk.out.move (Below.heap_setCell w2 ⟨g, 2, none⟩ (.slice (if c = 1 then some ad else (some ad).map (·.add 1)) (st.left.length - 1) (c - 1)) b2 (hMk.out.ne_g h2.out.st)))
  replace h2 := Aside0.mk (h2.out.less hl0)
  clear hMk
  rw [List.drop_one] at h2
  have h1l : (1 : Int) ≤ (st.left.length : Int) := by omega
  have h1c : (st.left.length : Int) ≤ (c : Int) := by omega
  have hg2 := World.block_lt_of_cell? _ _ c2
  replace he0 := he0.out
  subst he0
  by_cases hc1 : c = 1
  · subst hc1
    replace h2 := Aside0.mk (show KOut w0 w g b1 b2 (some b2) v v2 _ (some ad) 0 st.left.tail (w2.setCell ⟨g, 2, none⟩ (.slice (some ad) (st.left.length - 1) 0)) from h2.out)
    replace hm := Aside0.mk (show MpC (w2.setCell ⟨g, 2, none⟩ (.slice (some ad) (st.left.length - 1) 0)) b2 st.calls from hm.out)
    have ez : st.left.length - 1 = 0 := by omega
    rw [ez] at h2 hm
    go_wp2
    exact Go.Great.bodyPost_end0 rfl rfl ⟨rfl, ⟨v2, some ad, 0, h2.out⟩, hm.out⟩
  · rw [if_neg hc1] at h2 hm
    go_wp2
    exact Go.Great.bodyPost_end0 rfl rfl ⟨rfl, ⟨v2, some (ad.add 1), c - 1, h2.out⟩, hm.out⟩
end Go.Proofs.YtkpnfejfbmandaaDoor.Px
