import Derived.Test.YtkpnfejfbmandaaDoorCIM7
import Derived.Outline
import Derived.Test.YtkpnfejfbmandaaDoorCIM3
import Derived.Test.YtkpnfejfbmandaaDoorCIM5
import Derived.WalkSmall
import Derived.RegionDies
/- htmlctx: Step, Escaper. -/
namespace Go.Proofs.YtkpnfejfbmandaaDoor.Px
open Go.RowKit Go.Proofs.YtkpnfejfbmandaaDoorW.PrintWords Go.Proofs.YtkpnfejfbmandaaDoorW.PrintLast Go.Proofs.YtkpnfejfbmandaaDoorW.PrintMore
set_option linter.unusedVariables false
set_option linter.unusedSimpArgs false
def HS.ok (s : HS) : Prop := 0 ≤ s.c ∧ s.c ≤ 21 ∧ s.n.size < 1000000 ∧ s.a.size < 1000000 ∧ s.p.size < 1000000
def stepF (s : HS) (c : Int) : HS :=
  if s.c == 0 then textF s c else if s.c == 13 then commF s c else if (s.c == 14 || s.c == 15) = true then (if c == 62 then hz else s)
  else if (s.c == 16 || s.c == 17 || s.c == 18) = true then rawF s 16 ⟨#[60, 47, 115, 99, 114, 105, 112, 116]⟩ c
  else if (s.c == 19 || s.c == 20 || s.c == 21) = true then rawF s 19 ⟨#[60, 47, 115, 116, 121, 108, 101]⟩ c else tagF s c
set_option maxHeartbeats 8000000 in
set_option maxRecDepth 100000 in
theorem step_any (s : HS) (c : Int) (h0 : 0 ≤ c) (h9 : c ≤ 255) (hs : s.ok) (w : World) : Calls Tryd.prog 94 #[.agg #[.int .i64 s.c, .string s.n, .string s.a, .string s.p], .int .u8 c] w fun e w' => e = .returned (.agg #[.int .i64 (stepF s c).c, .string (stepF s c).n, .string (stepF s c).a, .string (stepF s c).p]) ∧ Below w.heap.size w w' := by
  obtain ⟨r, hr⟩ : ∃ r, r = Value.agg #[.int .i64 (stepF s c).c, .string (stepF s c).n, .string (stepF s c).a, .string (stepF s c).p] := ⟨_, rfl⟩
  rw [← hr]
  replace hr := Aside0.mk hr
  obtain ⟨k, n, a, p⟩ := s
  obtain ⟨hk0, hk9, hn, ha, hp⟩ := hs
  simp only at hk0 hk9 hn ha hp hr ⊢
  have hk : ((k = 0 ∨ k = 13) ∨ (k = 16 ∨ k = 17 ∨ k = 18 ∨ k = 19 ∨ k = 20 ∨ k = 21) ∨ (k = 1 ∨ k = 2 ∨ k = 3 ∨ k = 4 ∨ k = 5 ∨ k = 6 ∨ k = 7 ∨ k = 8 ∨ k = 9 ∨ k = 10 ∨ k = 11 ∨ k = 12)) ∨ k = 14 ∨ k = 15 := by omega
  clear hk0 hk9
  rcases hk with ((rfl | rfl) | (rfl | rfl | rfl | rfl | rfl | rfl) | (rfl | rfl | rfl | rfl | rfl | rfl | rfl | rfl | rfl | rfl | rfl | rfl)) | rfl | rfl
  · go_enter Tryd.func94, Tryd.ntmps94
    go_wp2_with (go_at_call 102; refine (text_any ⟨_, n, a, p⟩ _ h0 h9 hp _).mono ?_; rintro e w2 ⟨rfl, hb⟩; have hB := Aside0.mk (blk_below (blk_n1 w _ _) hb); have c0_ : w2.cell? ⟨w.heap.size + 1, 0, none⟩ = some (.int .i64 0) := (blk_cell hB.out 0).trans rfl; have f0_ := blk_frozen hB.out 0; have c1_ : w2.cell? ⟨w.heap.size + 1, 1, none⟩ = some (.string ⟨#[]⟩) := (blk_cell hB.out 1).trans rfl; have f1_ := blk_frozen hB.out 1; have c2_ : w2.cell? ⟨w.heap.size + 1, 2, none⟩ = some (.string ⟨#[]⟩) := (blk_cell hB.out 2).trans rfl; have f2_ := blk_frozen hB.out 2; have c3_ : w2.cell? ⟨w.heap.size + 1, 3, none⟩ = some (.string ⟨#[]⟩) := (blk_cell hB.out 3).trans rfl; have f3_ := blk_frozen hB.out 3; replace hb := Aside0.mk hb)
    exact ret88 rfl rfl rfl rfl (blk_put4 hB.out rfl _ _ _ _) ⟨by rw [hr.out]; simp [stepF], by repeat (first | (refine below_step ?_ hb.out) | exact Below.refl _ _ | apply below_alloc | refine below_set ?_ (Nat.le_succ _))⟩
  · go_enter Tryd.func94, Tryd.ntmps94
    go_wp2_with (go_at_call 103; refine (comment_any ⟨_, n, a, p⟩ _ hp _).mono ?_; rintro e w2 ⟨rfl, hb⟩; have hB := Aside0.mk (blk_below (blk_n1 w _ _) hb); have c0_ : w2.cell? ⟨w.heap.size + 1, 0, none⟩ = some (.int .i64 0) := (blk_cell hB.out 0).trans rfl; have f0_ := blk_frozen hB.out 0; have c1_ : w2.cell? ⟨w.heap.size + 1, 1, none⟩ = some (.string ⟨#[]⟩) := (blk_cell hB.out 1).trans rfl; have f1_ := blk_frozen hB.out 1; have c2_ : w2.cell? ⟨w.heap.size + 1, 2, none⟩ = some (.string ⟨#[]⟩) := (blk_cell hB.out 2).trans rfl; have f2_ := blk_frozen hB.out 2; have c3_ : w2.cell? ⟨w.heap.size + 1, 3, none⟩ = some (.string ⟨#[]⟩) := (blk_cell hB.out 3).trans rfl; have f3_ := blk_frozen hB.out 3; replace hb := Aside0.mk hb)
    exact ret88 rfl rfl rfl rfl (blk_put4 hB.out rfl _ _ _ _) ⟨by rw [hr.out]; simp [stepF], by repeat (first | (refine below_step ?_ hb.out) | exact Below.refl _ _ | apply below_alloc | refine below_set ?_ (Nat.le_succ _))⟩
  iterate 6
    · go_enter Tryd.func94, Tryd.ntmps94
      go_wp2_with (go_at_call 104; refine (raw_any ⟨_, n, a, p⟩ _ _ _ h0 h9 (by simp) hp (by simp) _).mono ?_; rintro e w2 ⟨rfl, hb⟩; have hB := Aside0.mk (blk_below (blk_n1 w _ _) hb); have c0_ : w2.cell? ⟨w.heap.size + 1, 0, none⟩ = some (.int .i64 0) := (blk_cell hB.out 0).trans rfl; have f0_ := blk_frozen hB.out 0; have c1_ : w2.cell? ⟨w.heap.size + 1, 1, none⟩ = some (.string ⟨#[]⟩) := (blk_cell hB.out 1).trans rfl; have f1_ := blk_frozen hB.out 1; have c2_ : w2.cell? ⟨w.heap.size + 1, 2, none⟩ = some (.string ⟨#[]⟩) := (blk_cell hB.out 2).trans rfl; have f2_ := blk_frozen hB.out 2; have c3_ : w2.cell? ⟨w.heap.size + 1, 3, none⟩ = some (.string ⟨#[]⟩) := (blk_cell hB.out 3).trans rfl; have f3_ := blk_frozen hB.out 3; replace hb := Aside0.mk hb)
      exact ret88 rfl rfl rfl rfl (blk_put4 hB.out rfl _ _ _ _) ⟨by rw [hr.out]; simp [stepF], by repeat (first | (refine below_step ?_ hb.out) | exact Below.refl _ _ | apply below_alloc | refine below_set ?_ (Nat.le_succ _))⟩
  iterate 12
    · go_enter Tryd.func94, Tryd.ntmps94
      go_wp2_with (go_at_call 105; refine (tag_any ⟨_, n, a, p⟩ _ h0 h9 (by simp) hn ha _).mono ?_; rintro e w2 ⟨rfl, hb⟩; have hB := Aside0.mk (blk_below (blk_n1 w _ _) hb); have c0_ : w2.cell? ⟨w.heap.size + 1, 0, none⟩ = some (.int .i64 0) := (blk_cell hB.out 0).trans rfl; have f0_ := blk_frozen hB.out 0; have c1_ : w2.cell? ⟨w.heap.size + 1, 1, none⟩ = some (.string ⟨#[]⟩) := (blk_cell hB.out 1).trans rfl; have f1_ := blk_frozen hB.out 1; have c2_ : w2.cell? ⟨w.heap.size + 1, 2, none⟩ = some (.string ⟨#[]⟩) := (blk_cell hB.out 2).trans rfl; have f2_ := blk_frozen hB.out 2; have c3_ : w2.cell? ⟨w.heap.size + 1, 3, none⟩ = some (.string ⟨#[]⟩) := (blk_cell hB.out 3).trans rfl; have f3_ := blk_frozen hB.out 3; replace hb := Aside0.mk hb)
      exact ret88 rfl rfl rfl rfl (blk_put4 hB.out rfl _ _ _ _) ⟨by rw [hr.out]; simp [stepF], by repeat (first | (refine below_step ?_ hb.out) | exact Below.refl _ _ | apply below_alloc | refine below_set ?_ (Nat.le_succ _))⟩
  all_goals
    (go_enter Tryd.func94, Tryd.ntmps94
     go_wp2
     all_goals exact ret88 rfl rfl rfl rfl (by repeat (first | exact blk_n1 _ _ _ | refine blk_alloc ?_ _)) ⟨by rw [hr.out]; simp [stepF, hz, *], by repeat (first | exact Below.refl _ _ | apply below_alloc)⟩)
def escF (s : HS) : Int × Bool :=
  if s.p.toList.isEmpty then (if s.c == 0 then (0, true) else if (s.c == 7 || s.c == 8) = true then (1, true) else if (s.c == 9 || s.c == 10) = true then (2, true) else if (s.c == 17 || s.c == 18) = true then (3, true) else if (s.c == 20 || s.c == 21) = true then (4, true) else (0, false)) else (0, false)
set_option maxHeartbeats 8000000 in
set_option maxRecDepth 100000 in
theorem escaper_any (s : HS) (w : World) : Calls Tryd.prog 82 #[.agg #[.int .i64 s.c, .string s.n, .string s.a, .string s.p]] w fun e w' => e = .returned (.tuple #[.int .i64 (escF s).1, .bool (escF s).2]) ∧ ∃ o, w' = w.alloc o := by
  obtain ⟨r, hr⟩ : ∃ r, r = Value.tuple #[.int .i64 (escF s).1, .bool (escF s).2] := ⟨_, rfl⟩
  rw [← hr]
  replace hr := Aside0.mk hr
  cases hpe : s.p.toList.isEmpty
  all_goals
    go_enter Tryd.func82, Tryd.ntmps82
    go_wp2
    all_goals
      (go_ret2
       exact ⟨by rw [hr.out, escF, hpe]; simp [*], _, rfl⟩)
end Go.Proofs.YtkpnfejfbmandaaDoor.Px
namespace Go.Proofs.YtkpnfejfbmandaaDoor.Px
open Go.RowKit Go.Proofs.YtkpnfejfbmandaaDoorW.PrintWords Go.Proofs.YtkpnfejfbmandaaDoorW.PrintLast Go.Proofs.YtkpnfejfbmandaaDoorW.PrintMore
set_option linter.unusedVariables false
set_option linter.unusedSimpArgs false
theorem eqA88 (d : Nat) (w : World) (x0 y0 : Int) (x1 y1 x2 y2 x3 y3 : ByteArray) :
    (Op.equalIn (d + 2) 88 (.agg #[.int .i64 x0, .string x1, .string x2, .string x3]) (.agg #[.int .i64 y0, .string y1, .string y2, .string y3])).run Tryd.prog w = .ok (x0 == y0 && (x1.toList == y1.toList && (x2.toList == y2.toList && (x3.toList == y3.toList)))) w := by
  refine eqA_of Tryd.underlying88 (by kernel_rfl) ?_
  refine eqf_cons (by rfl) (by go_simp; rfl) (by go_simp; rfl) (by go_simp) ?_
  refine eqf_cons (by rfl) (by go_simp; rfl) (by go_simp; rfl) (by go_simp) ?_
  refine eqf_cons (by rfl) (by go_simp; rfl) (by go_simp; rfl) (by go_simp) ?_
  exact eqf_last (by rfl) (by go_simp; rfl) (by go_simp; rfl) (by go_simp)
attribute [local go_sem high] eqA88
theorem toList_inj {a b : ByteArray} (h : a.toList = b.toList) : a = b := by
  rw [ByteArray.toList_eq, ByteArray.toList_eq] at h
  obtain ⟨⟨a⟩⟩ := a; obtain ⟨⟨b⟩⟩ := b
  simp at h; rw [h]
theorem hs_same {x y : HS} (h : (!x.c == y.c) = false ∧ (!x.n.toList == y.n.toList) = false ∧ (!x.a.toList == y.a.toList) = false ∧ (!x.p.toList == y.p.toList) = false) : x = y := by
  obtain ⟨a, b, c, d⟩ := x; obtain ⟨a', b', c', d'⟩ := y
  simp only [Bool.not_eq_false', beq_iff_eq] at h
  obtain ⟨rfl, h1, h2, h3⟩ := h
  rw [toList_inj h1, toList_inj h2, toList_inj h3]
def runF (s : HS) (l : List UInt8) : HS := l.foldl (fun s b => stepF s (b.toNat : Int)) s
theorem runF_step (s : HS) (l : List UInt8) (i : Nat) (h : i < l.length) : runF s (l.take (i + 1)) = stepF (runF s (l.take i)) ((l.getD i 0).toNat : Int) := by
  unfold runF
  rw [← List.take_append_getElem h, List.foldl_append]
  simp [List.getD, h]
def ag4 (x : HS) : Array Value := #[.int .i64 x.c, .string x.n, .string x.a, .string x.p]
structure RunRel (s : HS) (t : ByteArray) (O : Obj) (w : World) (i : Nat) (wr : World) : Prop where
  b0 : wr.heap[w.heap.size]? = some (.cells (ag4 (runF s (t.data.toList.take i))) 88 (0, 0))
  b1 : wr.heap[w.heap.size + 1]? = some (.cells (ag4 hz) 88 (0, 0))
  row : wr.heap[w.heap.size + 2]? = some O
  sz : w.heap.size + 3 ≤ wr.heap.size
  bel : Below w.heap.size w wr
theorem far4 {w : World} {g k : Nat} (h : k ≠ g) (a b c d : Value) : ((((w.setCell ⟨g, 0, none⟩ a).setCell ⟨g, 1, none⟩ b).setCell ⟨g, 2, none⟩ c).setCell ⟨g, 3, none⟩ d).heap[k]? = w.heap[k]? := by
  rw [Below.heap_setCell _ _ _ _ h, Below.heap_setCell _ _ _ _ h, Below.heap_setCell _ _ _ _ h, Below.heap_setCell _ _ _ _ h]
set_option maxHeartbeats 8000000 in
set_option maxRecDepth 100000 in
theorem run_any (s : HS) (t : ByteArray) (ht : t.size ≤ 65536) (hok : ∀ i, (runF s (t.data.toList.take i)).ok) (w : World) : Calls Tryd.prog 81 #[.agg #[.int .i64 s.c, .string s.n, .string s.a, .string s.p], .string t] w fun e w' => e = .returned (.agg #[.int .i64 (runF s t.data.toList).c, .string (runF s t.data.toList).n, .string (runF s t.data.toList).a, .string (runF s t.data.toList).p]) ∧ Below w.heap.size w w' := by
  have hcv : ∀ W : World, (convert 9 54 (Value.string t)).run Tryd.prog W = .ok (.slice (some ⟨W.heap.size, 0, none⟩) t.size (grownCap W t.size 0 5)) (Lib.bytesWorld W 5 t) := fun W => Lib.run_convert_string_bytes W 9 54 5 t Tryd.underlying9 Tryd.underlying54 Tryd.underlying5
  have H0 : ∀ A B : Obj, ∀ z, A = .cells (ag4 s) 88 → B = .cells (ag4 hz) 88 → z = (w.alloc A).alloc B → ∃ O, (∀ W : World, W.heap[w.heap.size + 2]? = some O → ∀ j, j < t.size → W.cell? ⟨w.heap.size + 2, j, none⟩ = some (.int .u8 (t.data.toList.getD j 0).toNat)) ∧ RunRel s t O w 0 (Lib.bytesWorld z 5 t) := by
    rintro A B z rfl rfl rfl
    have e : ((w.alloc (.cells (ag4 s) 88)).alloc (.cells (ag4 hz) 88)).heap.size = w.heap.size + 1 + 1 := by rw [World.size_alloc, World.size_alloc]
    have hnew := Lib.bytesWorld_at_new ((w.alloc (.cells (ag4 s) 88)).alloc (.cells (ag4 hz) 88)) 5 t
    rw [e] at hnew
    refine ⟨_, fun W hW j hj => ?_, ?_, ?_, hnew, ?_, ?_⟩
    · have q := Lib.bytesWorld_cell ((w.alloc (.cells (ag4 s) 88)).alloc (.cells (ag4 hz) 88)) 5 t j hj
      rw [e] at q
      rw [← q, cell_of_row _ _ _ _ _ _ hnew, cell_of_row _ _ _ _ _ _ hW]
    · rw [Lib.bytesWorld_at_old _ _ _ _ (by rw [e]; omega)]; exact blk_alloc (blk_new _ _) _
    · rw [Lib.bytesWorld_at_old _ _ _ _ (by rw [e]; omega)]; exact blk_n1 _ _ _
    · rw [Lib.bytesWorld_size, e]; omega
    · have b := below_alloc (below_alloc (Below.refl w.heap.size w) (.cells (ag4 s) 88)) (.cells (ag4 hz) 88)
      refine ⟨b.os, b.tape, b.output, ?_, fun k hk => ?_⟩
      · rw [Lib.bytesWorld_size, e]; omega
      · rw [Lib.bytesWorld_at_old _ _ _ _ (by rw [e]; omega)]; exact b.block k hk
  replace hok := Aside0.mk hok
  have facts : ∀ (j g : Nat) (x : HS) (W : World), W.heap[g]? = some (.cells (ag4 x) 88 (0, 0)) → (W.cell? ⟨g, 0, none⟩ = some (.int .i64 x.c) ∧ W.cell? ⟨g, 1, none⟩ = some (.string x.n) ∧ W.cell? ⟨g, 2, none⟩ = some (.string x.a) ∧ W.cell? ⟨g, 3, none⟩ = some (.string x.p)) ∧ (W.frozen? ⟨g, 0, none⟩ = false ∧ W.frozen? ⟨g, 1, none⟩ = false ∧ W.frozen? ⟨g, 2, none⟩ = false ∧ W.frozen? ⟨g, 3, none⟩ = false) := fun _ g x W h => ⟨⟨blk_cell h 0, blk_cell h 1, blk_cell h 2, blk_cell h 3⟩, blk_frozen h 0, blk_frozen h 1, blk_frozen h 2, blk_frozen h 3⟩
  replace facts := Aside0.mk facts
  go_enter Tryd.func81, Tryd.ntmps81
  go_wp2
  obtain ⟨O, hO, H1⟩ := H0 _ _ _ rfl rfl rfl
  replace hO := Aside0.mk hO
  replace H1 := Aside0.mk H1
  clear H0 hcv
  generalize grownCap _ t.size 0 5 = cp
  go_loopg [11] t.size (fun kq v11 wr => ∃ i : Nat, kq + i = t.size ∧ v11 = .int .i64 i ∧ RunRel s t O w i wr)
  case atStart => exact ⟨0, rfl, rfl, H1.out⟩
  case round =>
    obtain ⟨i, hki, rfl, HR⟩ := hrel
    clear H1
    by_cases hlt : i < t.size
    · have hl : decide ((i : Int) < (t.size : Int)) = true := decide_eq_true (by omega)
      have hrow := hO.out _ HR.row i hlt
      have hst := runF_step s t.data.toList i (by rw [data_length]; exact hlt)
      have hx := hok.out i
      have hB0 := HR.b0
      obtain ⟨b, hb⟩ : ∃ b : Int, b = ((t.data.toList.getD i 0).toNat : Int) := ⟨_, rfl⟩
      have hb0 : 0 ≤ b ∧ b ≤ 255 := by rw [hb]; have := (t.data.toList.getD i 0).toNat_lt; omega
      rw [← hb] at hrow hst
      generalize runF s (t.data.toList.take i) = x at hst hx hB0
      obtain ⟨⟨x0, x1, x2, x3⟩, f0, f1, f2, f3⟩ := facts.out 0 _ _ _ hB0
      replace HR := Aside0.mk HR
      replace hB0 := Aside0.mk hB0
      replace hst := Aside0.mk hst
      replace hx := Aside0.mk hx
      replace hb0 := Aside0.mk hb0
      have hsz := HR.out.sz
      clear hb
      go_wp2_with (go_at_call 94; refine (step_any x b hb0.out.1 hb0.out.2 hx.out _).mono ?_; rintro e w2 ⟨rfl, hb⟩; obtain ⟨⟨x0', x1', x2', x3'⟩, f0', f1', f2', f3'⟩ := facts.out 0 _ _ _ (blk_below hB0.out hb); have hsz2 : w.heap.size < w2.heap.size := Nat.lt_of_lt_of_le (by omega) hb.size; replace hb := Aside0.mk hb; clear x0 x1 x2 x3 f0 f1 f2 f3)
      all_goals
        have hB2 := blk_below hB0.out hb.out
        have hC2 := blk_below HR.out.b1 hb.out
        have hR2 := blk_below HR.out.row hb.out
        have hbel := below_step HR.out.bel hb.out
        have hs3 := Nat.le_trans hsz hb.out.size
        go_roundg (gk - 1)
        case measure => omega
        case rel =>
          refine ⟨i + 1, by omega, by simp, ?_⟩
          first
          | have hq : stepF x b = x := hs_same (by assumption)
            exact ⟨by rw [hst.out, hq]; exact blk_alloc hB2 _, blk_alloc hC2 _, blk_alloc hR2 _, by rw [World.size_alloc]; omega, below_alloc hbel _⟩
          | exact ⟨by rw [hst.out]; exact blk_alloc (blk_put4 hB2 rfl _ _ _ _) _, blk_alloc ((far4 (by omega) _ _ _ _).trans hC2) _, blk_alloc ((far4 (by omega) _ _ _ _).trans hR2) _, by rw [World.size_alloc]; simp; omega, below_alloc (below_set (below_set (below_set (below_set hbel (Nat.le_refl _)) (Nat.le_refl _)) (Nat.le_refl _)) (Nat.le_refl _)) _⟩
    · have hl : decide ((i : Int) < (t.size : Int)) = false := decide_eq_false (by omega)
      have hfin : t.data.toList.take i = t.data.toList := List.take_of_length_le (by rw [data_length]; omega)
      have hB0 := HR.b0
      rw [hfin] at hB0
      generalize hx : runF s t.data.toList = x at hB0
      obtain ⟨⟨x0, x1, x2, x3⟩, f0, f1, f2, f3⟩ := facts.out 0 _ _ _ hB0
      obtain ⟨⟨y0, y1, y2, y3⟩, g0, g1, g2, g3⟩ := facts.out 0 _ _ _ HR.b1
      replace HR := Aside0.mk HR
      replace hB0 := Aside0.mk hB0
      replace hx := Aside0.mk hx
      go_wp2
      exact ret88 rfl rfl rfl rfl (blk_put4 HR.out.b1 rfl _ _ _ _) ⟨by rw [hx.out], below_set (below_set (below_set (below_set HR.out.bel (Nat.le_succ _)) (Nat.le_succ _)) (Nat.le_succ _)) (Nat.le_succ _)⟩
end Go.Proofs.YtkpnfejfbmandaaDoor.Px
namespace Go.Proofs.YtkpnfejfbmandaaDoor.Px
open Go.RowKit Go.Proofs.YtkpnfejfbmandaaDoorW.PrintWords Go.Proofs.YtkpnfejfbmandaaDoorW.PrintLast Go.Proofs.YtkpnfejfbmandaaDoorW.PrintMore
set_option linter.unusedVariables false
set_option linter.unusedSimpArgs false
abbrev IS := List Int × Int × Int
def hsE (x y : HS) : Bool := x.c == y.c && (x.n.toList == y.n.toList && (x.a.toList == y.a.toList && x.p.toList == y.p.toList))
def failI (st : IS) (at_ e : Int) : IS := if st.2.2 == 0 then (st.1, at_, e) else st
def expI (st : IS) (at_ : Int) (got want : HS) (e : Int) : IS := if hsE got want then st else failI st at_ e
mutual
def iL : List S78 → HS → IS → HS × IS
  | [], s, st => (s, st)
  | x :: xs, s, st => if st.2.2 = 0 then iL xs (iN x s st).1 (iN x s st).2 else (s, st)
def iN : S78 → HS → IS → HS × IS
  | ⟨k, at_, S, _, _, _, b, l⟩, s, st =>
    if k = 0 then (runF s S.data.toList, st)
    else if k = 1 then (s, ((if (escF s).2 then st else failI st at_ 15).1 ++ [(escF s).1], (if (escF s).2 then st else failI st at_ 15).2))
    else if k = 4 then (s, expI st at_ s hz 15)
    else if k = 2 then ((iL b s st).1, expI (iL l s (iL b s st).2).2 at_ (iL l s (iL b s st).2).1 (iL b s st).1 16)
    else if k = 3 then (s, expI (iL b s st).2 at_ (iL b s st).1 s 16)
    else if k = 6 then (s, expI (iL b hz st).2 at_ (iL b hz st).1 hz 16)
    else (s, st)
end
theorem keep_tr {w W W2 : World} {g : Nat} {row row1 : Option Nat} (h : KeepBut w W g row) (k : KeepBut W W2 g row1) (hr : row1 = row ∨ row1 = none ∨ ∃ b, row1 = some b ∧ w.heap.size ≤ b) : KeepBut w W2 g row :=
  ⟨Nat.le_trans h.1 k.1, fun i hi hg hi' => by
    refine (k.2 i (Nat.lt_of_lt_of_le hi h.1) hg ?_).trans (h.2 i hi hg hi')
    rcases hr with rfl | rfl | ⟨b, rfl, hb⟩
    · exact hi'
    · simp
    · simp; omega⟩
structure AIn (w0 : World) (g : Nat) (v : Value) (st : IS) (W : World) : Prop where
  blk : W.heap[g]? = some (.cells #[v, .int .i64 st.2.1, .int .i64 st.2.2] 86 (0, 0))
  own : Kd.R (Kd.int .i64) 3 W w0.heap.size (fun k => k ≠ g) v st.1
  bel : Below w0.heap.size w0 W
  ge : w0.heap.size ≤ g
structure AOut (w0 w : World) (g : Nat) (v0 v : Value) (st : IS) (W : World) : Prop where
  st : AIn w0 g v st W
  keep : KeepBut w W g v0.ownBlock
  row : v.ownBlock = v0.ownBlock ∨ v.ownBlock = none ∨ ∃ b, v.ownBlock = some b ∧ w.heap.size ≤ b
theorem AIn.out {w0 g v st W} (h : AIn w0 g v st W) : AOut w0 W g v v st W := ⟨h, KeepBut.refl _ _ _, .inl rfl⟩
theorem AIn.alloc {w0 g v st W} (h : AIn w0 g v st W) (o : Obj) : AIn w0 g v st (W.alloc o) := ⟨blk_alloc h.blk o, Kd.R_alloc h.own o, h.bel.alloc h.bel.size o, h.ge⟩
theorem AIn.drew {w0 g v st W} (h : AIn w0 g v st W) : AIn w0 g v st W.drew := ⟨h.blk, h.own, h.bel.drew, h.ge⟩
theorem AIn.below {w0 g v st W W2} (h : AIn w0 g v st W) (hb : Below W.heap.size W W2) : AIn w0 g v st W2 := ⟨blk_below h.blk hb, Kd.R_below h.own hb, below_weaken h.bel h.bel.size hb, h.ge⟩
theorem AOut.alloc {w0 w g v0 v st W} (h : AOut w0 w g v0 v st W) (o : Obj) : AOut w0 w g v0 v st (W.alloc o) := ⟨h.st.alloc o, keep_tr h.keep (KeepBut.of_grown (World.grownBy_alloc W o none) g) (.inr (.inl rfl)), h.row⟩
theorem AOut.drew {w0 w g v0 v st W} (h : AOut w0 w g v0 v st W) : AOut w0 w g v0 v st W.drew := ⟨h.st.drew, keep_drew h.keep, h.row⟩
theorem AOut.below {w0 w g v0 v st W W2} (h : AOut w0 w g v0 v st W) (hb : Below W.heap.size W W2) : AOut w0 w g v0 v st W2 := ⟨h.st.below hb, keep_tr h.keep (KeepBut.of_below hb g none) (.inr (.inl rfl)), h.row⟩
theorem AOut.call {w0 w g v0 v1 v2 st st2 W W2} (h : AOut w0 w g v0 v1 st W) (h2 : AOut w0 W g v1 v2 st2 W2) : AOut w0 w g v0 v2 st2 W2 :=
  ⟨h2.st, keep_tr h.keep h2.keep h.row, by
    rcases h2.row with e | e | ⟨b, e, hb⟩
    · rw [e]; exact h.row
    · exact .inr (.inl e)
    · exact .inr (.inr ⟨b, e, Nat.le_trans h.keep.1 hb⟩)⟩
theorem AOut.box {w0 w g v0 v st st0 W k cs t} (h : AOut w0 w g v0 v st W) (h0 : AIn w0 g v0 st0 w) (hb : w.heap[k]? = some (.cells cs t (0, 0))) (ht : 3 ≠ t) (hk : k ≠ g) : W.heap[k]? = some (.cells cs t (0, 0)) := by
  obtain ⟨inner, ho⟩ := Kd.R_own h0.own
  exact (h.keep.2 k (blk_lt hb) hk (own_ne ho hb ht)).trans hb
theorem R_setint {W : World} {base : Nat} {ok : Nat → Prop} {v : Value} {xs : List Int} (h : Kd.R (Kd.int .i64) 3 W base ok v xs) {k j t : Nat} {cs : Array Value} (hb : W.heap[k]? = some (.cells cs t (0, 0))) (ht : 3 ≠ t) (u : Value) : Kd.R (Kd.int .i64) 3 (W.setCell ⟨k, j, none⟩ u) base ok v xs :=
  Kd.R_mono (Kd.R_far (Kd.R_bound h) (p := ⟨k, j, none⟩) (fun k' hk' e => by
    obtain ⟨_, _, _, q, hq, cells, hc⟩ := hk'
    have hq' : q = 3 := by simpa [Kd.int, Kd.scalar] using hq
    subst hq'
    rw [show k' = k from e, hb] at hc
    simp at hc
    exact ht hc.2.symm) u) (fun _ hk => hk.1)
theorem AOut.setbox {w0 w g v0 v st W k cs t j} (h : AOut w0 w g v0 v st W) (hb : W.heap[k]? = some (.cells cs t (0, 0))) (ht : 3 ≠ t) (hk : k ≠ g) (hw : w.heap.size ≤ k) (hw0 : w0.heap.size ≤ w.heap.size) (u : Value) : AOut w0 w g v0 v st (W.setCell ⟨k, j, none⟩ u) :=
  ⟨⟨(Below.heap_setCell _ _ _ _ (Ne.symm hk)).trans h.st.blk, R_setint h.st.own hb ht u, h.st.bel.setCell (Nat.le_trans hw0 hw) _, h.st.ge⟩, keep_far h.keep (p := ⟨k, j, none⟩) hw u, h.row⟩
theorem AIn.cells {w0 g v st W} (h : AIn w0 g v st W) : (W.cell? ⟨g, 0, none⟩ = some v ∧ W.cell? ⟨g, 1, none⟩ = some (.int .i64 st.2.1) ∧ W.cell? ⟨g, 2, none⟩ = some (.int .i64 st.2.2)) ∧ W.frozen? ⟨g, 0, none⟩ = false ∧ W.frozen? ⟨g, 1, none⟩ = false ∧ W.frozen? ⟨g, 2, none⟩ = false :=
  ⟨⟨blk_cell h.blk 0, blk_cell h.blk 1, blk_cell h.blk 2⟩, blk_frozen h.blk 0, blk_frozen h.blk 1, blk_frozen h.blk 2⟩
theorem AOut.err {w0 g v st W} (h : AIn w0 g v st W) (a e : Int) : AOut w0 W g v v (st.1, a, e) ((W.setCell ⟨g, 1, none⟩ (.int .i64 a)).setCell ⟨g, 2, none⟩ (.int .i64 e)) :=
  ⟨⟨blk_set (blk_set h.blk 1 _) 2 _, Kd.R_far (Kd.R_far h.own (fun _ h => h) _) (fun _ h => h) _, (h.bel.setCell h.ge _).setCell h.ge _, h.ge⟩, ((KeepBut.refl _ _ _).set_ 1 _).set_ 2 _, .inl rfl⟩
set_option maxHeartbeats 4000000 in
set_option maxRecDepth 100000 in
theorem fail_any {w0 g v st} (kd at_ : Int) (S P : ByteArray) (p1 p2 : Bool) (v6 v7 : Value) (er : Int) (w : World) (hS : AIn w0 g v st w) :
    Calls Tryd.prog 61 #[.pointer (some ⟨g, 0, none⟩), .agg #[.int .i64 kd, .int .i64 at_, .string S, .string P, .bool p1, .bool p2, v6, v7], .int .i64 er] w fun e w' => e = .returned (.tuple #[]) ∧ AOut w0 w g v v (failI st at_ er) w' := by
  obtain ⟨⟨c0, c1, c2⟩, f0, f1, f2⟩ := hS.cells
  have hlt := blk_lt hS.blk
  replace hS := Aside0.mk hS
  by_cases he : st.2.2 = 0
  · have he' : (st.2.2 == 0) = true := by simp [he]
    have hq : failI st at_ er = (st.1, at_, er) := by unfold failI; rw [he']; rfl
    rw [hq]
    clear hq he
    go_enter Tryd.func61, Tryd.ntmps61
    go_wp2
    go_end0
    exact ⟨rfl, (AOut.err hS.out _ _).alloc _⟩
  · have he' : (st.2.2 == 0) = false := by simp [he]
    have hq : failI st at_ er = st := by unfold failI; rw [he']; rfl
    rw [hq]
    clear hq he
    go_enter Tryd.func61, Tryd.ntmps61
    go_wp2
    go_end0
    exact ⟨rfl, hS.out.out.alloc _⟩
attribute [local go_sem high] eqA88
set_option maxHeartbeats 4000000 in
set_option maxRecDepth 100000 in
theorem expect_any {w0 g v st} (kd at_ : Int) (S P : ByteArray) (p1 p2 : Bool) (v6 v7 : Value) (got want : HS) (er : Int) (w : World) (hS : AIn w0 g v st w) :
    Calls Tryd.prog 39 #[.pointer (some ⟨g, 0, none⟩), .agg #[.int .i64 kd, .int .i64 at_, .string S, .string P, .bool p1, .bool p2, v6, v7], .agg #[.int .i64 got.c, .string got.n, .string got.a, .string got.p], .agg #[.int .i64 want.c, .string want.n, .string want.a, .string want.p], .int .i64 er] w fun e w' => e = .returned (.tuple #[]) ∧ AOut w0 w g v v (expI st at_ got want er) w' := by
  unfold expI
  have hE : hsE got want = (got.c == want.c && (got.n.toList == want.n.toList && (got.a.toList == want.a.toList && got.p.toList == want.p.toList))) := rfl
  have hS0 := hS.out
  replace hS := Aside0.mk hS
  replace hS0 := Aside0.mk hS0
  cases hq : hsE got want
  all_goals
    rw [hq] at hE
    replace hE := hE.symm
    go_enter Tryd.func39, Tryd.ntmps39
    go_wp2_with fail
  · refine (fail_any kd at_ S P p1 p2 v6 v7 er _ (((hS.out.alloc _).alloc _).alloc _)).mono ?_
    rintro e w1 ⟨rfl, h1⟩
    replace h1 := Aside0.mk h1
    go_wp2
    go_end0
    exact ⟨rfl, (((hS0.out.alloc _).alloc _).alloc _).call h1.out⟩
  · go_end0
    exact ⟨rfl, ((hS0.out.alloc _).alloc _).alloc _⟩
end Go.Proofs.YtkpnfejfbmandaaDoor.Px
namespace Go.Proofs.YtkpnfejfbmandaaDoor.Px
open Go.RowKit Go.Proofs.YtkpnfejfbmandaaDoorW.PrintWords Go.Proofs.YtkpnfejfbmandaaDoorW.PrintLast Go.Proofs.YtkpnfejfbmandaaDoorW.PrintMore
set_option linter.unusedVariables false
set_option linter.unusedSimpArgs false
def HS.gd (s : HS) : Prop := 0 ≤ s.c ∧ s.c ≤ 21 ∧ s.n.size ≤ 16 ∧ s.a.size ≤ 16 ∧ s.p.size ≤ 16
theorem HS.gd.ok {s : HS} (h : s.gd) : s.ok := by obtain ⟨a, b, c, d, e⟩ := h; exact ⟨a, b, by omega, by omega, by omega⟩
theorem size_app (a b : ByteArray) : (a ++ b).size = a.size + b.size := ByteArray.size_append
theorem sz0 : (⟨#[]⟩ : ByteArray).size ≤ 16 := by decide
theorem gd_mk {c : Int} {n a p : ByteArray} (h0 : 0 ≤ c) (h1 : c ≤ 21) (hn : n.size ≤ 16) (ha : a.size ≤ 16) (hp : p.size ≤ 16) : HS.gd ⟨c, n, a, p⟩ := ⟨h0, h1, hn, ha, hp⟩
theorem hz_gd : hz.gd := gd_mk (by decide) (by decide) sz0 sz0 sz0
theorem hc_gd {c : Int} (h0 : 0 ≤ c) (h1 : c ≤ 21) : (hc c).gd := gd_mk h0 h1 sz0 sz0 sz0
theorem hp_gd {p : ByteArray} (h : p.size ≤ 16) : (hp p).gd := gd_mk (by decide) (by decide) sz0 sz0 h
theorem w_gd {s : HS} (h : s.gd) {c : Int} (h0 : 0 ≤ c) (h1 : c ≤ 21) : (s.w c).gd := gd_mk h0 h1 h.2.2.1 sz0 sz0
theorem pt_gd {s : HS} (h : s.gd) {p : ByteArray} (hp : p.size ≤ 16) : (s.pt p).gd := ⟨h.1, h.2.1, h.2.2.1, h.2.2.2.1, hp⟩
theorem size_of_toList {a : ByteArray} {l : List UInt8} (h : (a.toList == l) = true) : a.size = l.length := by
  rw [← data_length, ← ByteArray.toList_eq, eq_of_beq h]
theorem textT_gd (c : Int) : (textT c).gd := by unfold textT; split; exact hp_gd (by decide); exact hz_gd
theorem textF_gd {s : HS} (h : s.gd) (c : Int) : (textF s c).gd := by
  unfold textF
  have hb := b1_size c
  split
  · rename_i h1
    have := size_of_toList h1
    simp only [List.length_cons, List.length_nil] at this
    split
    · exact gd_mk (by decide) (by decide) (by rw [lowF_size]; decide) sz0 sz0
    · split
      · exact hp_gd (by rw [size_app]; omega)
      · split
        · exact hp_gd (by rw [size_app]; omega)
        · exact textT_gd c
  · split
    · rename_i h1
      have := size_of_toList h1
      simp only [List.length_cons, List.length_nil] at this
      split
      · exact hp_gd (by rw [size_app]; omega)
      · split
        · exact hz_gd
        · exact hc_gd (by decide) (by decide)
    · split
      · split
        · exact hc_gd (by decide) (by decide)
        · exact textT_gd c
      · split
        · split
          · exact hc_gd (by decide) (by decide)
          · split
            · exact hz_gd
            · exact hc_gd (by decide) (by decide)
        · exact textT_gd c
theorem commF_gd {s : HS} (h : s.gd) (c : Int) : (commF s c).gd := by
  unfold commF
  split
  · exact hz_gd
  · split
    · split
      · rename_i h2
        have := of_decide_eq_true h2
        exact pt_gd h (by rw [size_app]; have : (⟨#[45]⟩ : ByteArray).size = 1 := rfl; omega)
      · exact h
    · exact pt_gd h sz0
theorem addF_le {n : ByteArray} (h : n.size ≤ 16) (c : Int) : (addF n c).size ≤ 16 := by
  unfold addF
  split
  · exact h
  · rename_i h1
    have : ¬ (n.size : Int) = 16 := by simpa using h1
    rw [size_app, lowF_size]; omega
theorem nameF_gd {s : HS} (h : s.gd) (c : Int) : (nameF s c).gd := by
  obtain ⟨h0, h1, h2, h3, h4⟩ := h
  unfold nameF
  split
  · exact w_gd ⟨h0, h1, h2, h3, h4⟩ (by decide) (by decide)
  · split
    · exact ⟨h0, h1, addF_le h2 c, h3, h4⟩
    · split
      · exact ⟨h0, h1, h2, h3, h4⟩
      · split
        · exact gd_mk (by decide) (by decide) h2 h3 h4
        · split
          · exact gd_mk (by decide) (by decide) h2 h3 h4
          · split
            · exact gd_mk (by decide) (by decide) h2 (addF_le h3 c) h4
            · exact gd_mk (by decide) (by decide) h2 (addF_le sz0 c) sz0
theorem quotF_le (a : ByteArray) : 7 ≤ quotF a ∧ quotF a ≤ 11 := by unfold quotF; split; omega; split <;> omega
theorem valF_gd {s : HS} (h : s.gd) (c : Int) : (valF s c).gd := by
  have := quotF_le s.a
  unfold valF
  split
  · exact h
  · split
    · exact w_gd h (by omega) (by omega)
    · split
      · exact w_gd h (by omega) (by omega)
      · exact w_gd h (by decide) (by decide)
theorem openF_gd (n : ByteArray) : (openF n).gd := by
  unfold openF
  split
  · exact hc_gd (by decide) (by decide)
  · split
    · exact hc_gd (by decide) (by decide)
    · exact hz_gd
theorem tagF_gd {s : HS} (h : s.gd) (c : Int) : (tagF s c).gd := by
  unfold tagF
  repeat' split
  all_goals first | exact h | exact w_gd h (by decide) (by decide) | exact openF_gd _ | exact valF_gd h c | exact nameF_gd h c
theorem prefix_len {a b : List UInt8} (h : Lib.hasPrefix a b = true) : b.length ≤ a.length := by
  exact (List.isPrefixOf_iff_prefix.1 h).length_le
theorem rawF_gd {s : HS} (h : s.gd) {code : Int} {e : ByteArray} (hcd : 0 ≤ code ∧ code ≤ 19) (he : e.size ≤ 16) (c : Int) : (rawF s code e c).gd := by
  obtain ⟨h0, h1, h2, h3, h4⟩ := h
  unfold rawF
  split
  · rename_i hh
    rw [Bool.and_eq_true] at hh
    have hl := prefix_len hh.2
    rw [data_length, data_length] at hl
    split
    · exact hc_gd (by decide) (by decide)
    · exact pt_gd ⟨h0, h1, h2, h3, h4⟩ (by omega)
  · repeat' split
    all_goals first | exact pt_gd ⟨h0, h1, h2, h3, h4⟩ sz0 | exact pt_gd ⟨h0, h1, h2, h3, h4⟩ (by decide) | exact gd_mk (by omega) (by omega) h2 h3 sz0
theorem stepF_gd {s : HS} (h : s.gd) (c : Int) : (stepF s c).gd := by
  unfold stepF
  repeat' split
  all_goals first | exact h | exact textF_gd h c | exact commF_gd h c | exact hz_gd | exact rawF_gd h ⟨by decide, by decide⟩ (by decide) c | exact tagF_gd h c
theorem runF_gd : ∀ (l : List UInt8) {s : HS}, s.gd → (runF s l).gd
  | [], s, h => h
  | b :: l, s, h => runF_gd l (stepF_gd h _)
end Go.Proofs.YtkpnfejfbmandaaDoor.Px
namespace Go.Proofs.YtkpnfejfbmandaaDoor.Px
open Go.RowKit Go.Proofs.YtkpnfejfbmandaaDoorW.PrintWords Go.Proofs.YtkpnfejfbmandaaDoorW.PrintLast Go.Proofs.YtkpnfejfbmandaaDoorW.PrintMore
set_option linter.unusedVariables false
set_option linter.unusedSimpArgs false
abbrev PA (α : Type) := Except (Int × Int) (α × List S76 × Int)
def endB (t : S76) (h : Bool) (body els : List S78) : List S76 → Int → PA S78
  | [], _ => .error (t.f1, 7)
  | t3 :: r4, n => if t3.f0 = 8 then .ok (⟨t.f0, t.f1, t.f2, t.f3, t.f4, h, body, els⟩, r4, n) else .error (t3.f1, 13)
def opK (k : Int) : Prop := k = 2 ∨ k = 3 ∨ k = 6
instance (k : Int) : Decidable (opK k) := by unfold opK; infer_instance
mutual
def plist : Nat → List S76 → Int → Int → List S78 → Option (PA (List S78))
  | 0, _, _, _, _ => none
  | k + 1, [], n, d, out => some (.ok (out, [], n))
  | k + 1, t :: r, n, d, out =>
    if out.length < 100000 then
      if t.f0 = 7 ∨ t.f0 = 8 then some (.ok (out, t :: r, n))
      else match pnode k t r n d with
        | none => none
        | some (.error e) => some (.error e)
        | some (.ok (x, r', n')) => plist k r' n' d (out ++ [x])
    else none
def pnode : Nat → S76 → List S76 → Int → Int → Option (PA S78)
  | 0, _, _, _, _ => none
  | k + 1, t, r, n, d =>
    if 0 ≤ n ∧ 0 ≤ d then
      if t.f0 = 6 ∧ d > 0 then some (.error (t.f1, 13))
      else if opK t.f0 ∧ d ≥ 32 then some (.error (t.f1, 13))
      else if n ≥ 4096 then some (.error (t.f1, 14))
      else if opK t.f0 then
        match plist k r (n + 1) (d + 1) [] with
        | none => none
        | some (.error e) => some (.error e)
        | some (.ok (body, [], n1)) => some (.error (t.f1, 7))
        | some (.ok (body, t1 :: r2, n1)) =>
          if t1.f0 = 7 then
            if t.f0 = 2 then
              match plist k r2 n1 (d + 1) [] with
              | none => none
              | some (.error e) => some (.error e)
              | some (.ok (els, r3, n3)) => some (endB t true body els r3 n3)
            else some (.error (t1.f1, 13))
          else some (endB t false body [] (t1 :: r2) n1)
      else some (.ok (⟨t.f0, t.f1, t.f2, t.f3, t.f4, false, [], []⟩, r, n + 1))
    else none
end
def pblk (k : Nat) (t : S76) (r : List S76) (n d : Int) : Option (PA S78) :=
  match plist k r n (d + 1) [] with
  | none => none
  | some (.error e) => some (.error e)
  | some (.ok (body, [], n1)) => some (.error (t.f1, 7))
  | some (.ok (body, t1 :: r2, n1)) =>
    if t1.f0 = 7 then
      if t.f0 = 2 then
        match plist k r2 n1 (d + 1) [] with
        | none => none
        | some (.error e) => some (.error e)
        | some (.ok (els, r3, n3)) => some (endB t true body els r3 n3)
      else some (.error (t1.f1, 13))
    else some (endB t false body [] (t1 :: r2) n1)
theorem pnode_eq (k : Nat) (t : S76) (r : List S76) (n d : Int) : pnode (k + 1) t r n d =
    if 0 ≤ n ∧ 0 ≤ d then
      if t.f0 = 6 ∧ d > 0 then some (.error (t.f1, 13))
      else if opK t.f0 ∧ d ≥ 32 then some (.error (t.f1, 13))
      else if n ≥ 4096 then some (.error (t.f1, 14))
      else if opK t.f0 then pblk k t r (n + 1) d
      else some (.ok (⟨t.f0, t.f1, t.f2, t.f3, t.f4, false, [], []⟩, r, n + 1))
    else none := by
  rw [pnode]; rfl
@[irreducible] def opB (a : Int) : Bool := a == 2 || a == 3 || a == 6
theorem opB_iff (a : Int) : opB a = true ↔ opK a := by unfold opB opK; simp [or_assoc]
theorem opens_any (a : Int) (w : World) : Calls Tryd.prog 78 #[.int .i64 a] w fun e w' => e = .returned (.bool (opB a)) ∧ w = w' := by
  unfold opB
  by_cases h2 : (a == 2) = true
  · go_enter Tryd.func78, Tryd.ntmps78
    go_wp2
    go_ret
    exact ⟨by simp [h2], rfl⟩
  · have h2' : (a == 2) = false := by simpa using h2
    by_cases h3 : (a == 3) = true
    · go_enter Tryd.func78, Tryd.ntmps78
      go_wp2
      go_ret
      exact ⟨by simp [h2, h3], rfl⟩
    · have h3' : (a == 3) = false := by simpa using h3
      go_enter Tryd.func78, Tryd.ntmps78
      go_wp2
      go_ret
      exact ⟨by simp [h2', h3'], rfl⟩
abbrev boom (at_ e : Int) : Ending := .panicked [{ v := .iface 68 (.agg #[.int .i64 at_, .int .i64 e]), recovered := false }]
theorem must_ok (at_ er : Int) (w : World) : Calls Tryd.prog 33 #[.bool true, .int .i64 at_, .int .i64 er] w fun e w' => e = .returned (.tuple #[]) ∧ w = w' := by
  go_enter Tryd.func33, Tryd.ntmps33
  go_wp2
  go_end0
  exact ⟨rfl, rfl⟩
theorem must_no (at_ er : Int) (w : World) : Calls Tryd.prog 33 #[.bool false, .int .i64 at_, .int .i64 er] w fun e w' => e = boom at_ er ∧ w = w' := by
  go_enter Tryd.func33, Tryd.ntmps33
  go_wp2
  exact ⟨rfl, rfl, rfl⟩
set_option maxRecDepth 100000 in
theorem info76d : ∃ i, Tryd.prog.info? 76 = some i ∧ i.size = 5 := ⟨_, rfl, rfl⟩
def cutT (A : Option Addr) (c : Nat) : Option Addr := if c = 1 then A else A.map (·.add 5)
theorem cutT_C {w : World} {A : Option Addr} {c : Nat} {x : S76} {l : List S76} (h : Kd.C k76 w A (x :: l).length (x :: l)) (hc : (x :: l).length ≤ c) : Kd.C k76 w (cutT A c) l.length l :=
  Kd.C_drop (m := 1) h (by rw [List.length_cons]; omega) hc
theorem cutT1 (A : Option Addr) (n c : Nat) (h : 1 ≤ n) : ∀ W : World, (Instr.slice 64 (.slice A n c) (some (.int .i64 1)) none none).run Tryd.prog W = .ok (.slice (cutT A c) (n - 1) (c - 1)) W := by
  obtain ⟨i, hi, hsz⟩ := info76d
  exact cut_from 64 76 .i64 Tryd.underlying64 hi 5 hsz A n c 1 (by decide) (by omega)
theorem head_T28 {w : World} {A : Option Addr} {t : S76} {r : List S76} (h : Kd.C k76 w A (t :: r).length (t :: r)) : ∃ b o s, A = some ⟨b, o, s⟩ ∧ w.cell? ⟨b, o, s⟩ = some (.int .i64 t.f0) ∧ w.cell? ⟨b, o + 1, none⟩ = some (.int .i64 t.f1) ∧ w.cell? ⟨b, o + 2, none⟩ = some (.string t.f2) ∧ w.cell? ⟨b, o + 3, none⟩ = some (.string t.f3) ∧ w.cell? ⟨b, o + 4, none⟩ = some (.bool t.f4) := by
  obtain ⟨ad, e, x0, x1, x2, x3, x4⟩ := at_T76 h 0 (Int.le_refl _) (by rw [List.length_cons]; omega)
  obtain ⟨b, o, s⟩ := ad
  have e0 : rd_T76 (t :: r) 0 = t := rfl
  rw [e0] at x0 x1 x2 x3 x4
  simp only [Addr.add, Int.toNat_zero, Nat.zero_mul, if_true, Nat.add_zero] at x0 x1 x2 x3 x4
  exact ⟨b, o, s, e, x0, x1, x2, x3, x4⟩
def stP (A : Option Addr) (c : Nat) (l : List S76) (n d : Int) : Array Value := #[.slice A l.length c, .int .i64 n, .int .i64 d]
def PSt (w0 w : World) (g : Nat) (l : List S76) (n d : Int) (W : World) : Prop := ∃ A c, Stp w0 w g 72 (stP A c l n d) W ∧ Kd.C k76 w0 A l.length l ∧ l.length ≤ c
def PPost {α : Type} (w0 w : World) (g : Nat) (d : Int) (Q : Ending → α → World → Prop) : PA α → Ending → World → Prop
  | .ok (x, l', n'), e, w' => Q e x w' ∧ PSt w0 w g l' n' d w'
  | .error (at_, er), e, w' => e = boom at_ er ∧ Below w0.heap.size w0 w'
abbrev plist.Con (k : Nat) : Prop := ∀ (g : Nat) (l : List S76) (n d : Int) (res : PA (List S78)) (w0 w : World) (hS : PSt w0 w g l n d w) (h : plist k l n d [] = some res),
  Calls Tryd.prog 32 #[.pointer (some ⟨g, 0, none⟩)] w fun e w' => PPost w0 w g d (fun e r w' => ∃ v : Value, e = .returned v ∧ Kd.R k78 78 w' w.heap.size (fun _ => True) v r) res e w'
abbrev pnode.Con (k : Nat) : Prop := ∀ (g : Nat) (t : S76) (r : List S76) (n d : Int) (res : PA S78) (w0 w : World) (hS : PSt w0 w g (t :: r) n d w) (h : pnode k t r n d = some res),
  Calls Tryd.prog 55 #[.pointer (some ⟨g, 0, none⟩)] w fun e w' => PPost w0 w g d (fun e x w' => ∃ v6 v7 : Value, e = .returned (.agg #[.int .i64 x.f0, .int .i64 x.f1, .string x.f2, .string x.f3, .bool x.f4, .bool x.f5, v6, v7]) ∧ Kd.R k78 78 w' w.heap.size (fun _ => True) v6 x.f6 ∧ Kd.R k78 78 w' w.heap.size (fun _ => True) v7 x.f7) res e w'
theorem info78 : (Tryd.prog.info? 78).map (fun i => (i.zero, i.size, i.bytes)) = some (some (.agg #[.int .i64 0, .int .i64 0, .string ⟨#[]⟩, .string ⟨#[]⟩, .bool false, .bool false, .slice none 0 0, .slice none 0 0]), 8, 104) := by kernel_rfl
end Go.Proofs.YtkpnfejfbmandaaDoor.Px
namespace Go.Proofs.YtkpnfejfbmandaaDoor.Px
open Go.RowKit Go.Proofs.YtkpnfejfbmandaaDoorW.PrintWords Go.Proofs.YtkpnfejfbmandaaDoorW.PrintLast Go.Proofs.YtkpnfejfbmandaaDoorW.PrintMore
set_option linter.unusedVariables false
set_option linter.unusedSimpArgs false
def PlRel (g : Nat) (d : Int) (res : PA (List S78)) (w0 w : World) (kq : Nat) (v : Value) (wr : World) : Prop :=
  ∃ (out : List S78) (l : List S76) (n : Int), plist kq l n d out = some res ∧ Kd.R k78 78 wr w.heap.size (fun _ => True) v out ∧ PSt w0 w g l n d wr
set_option maxHeartbeats 1000000 in
set_option maxRecDepth 100000 in
theorem plist.step (k : Nat) (ihn : ∀ m, m < k → pnode.Con m) : plist.Con k := by
  intro g l n d res w0 w hS h
  have hgw : g < w.heap.size := by obtain ⟨A, c, hS, _⟩ := hS; exact hS.lt
  have HN := Aside0.mk ihn; clear ihn
  have H0 : PlRel g d res w0 w k (.slice none 0 0) w := ⟨[], l, n, h, Kd.R_nil _ _ _ _ _, hS⟩
  clear hS h
  go_enter Tryd.func32, Tryd.ntmps32
  go_wp2
  go_loopg [3] k (fun kq v wr => kq ≤ k ∧ PlRel g d res w0 w kq v wr)
  case atStart => exact ⟨Nat.le_refl _, H0⟩
  case round =>
    clear H0 l n
    obtain ⟨hk, out, l, n, H, HO, A, c, HS, HC, hc⟩ := hrel
    cases gk with
    | zero => exact absurd H (by simp [plist])
    | succ k1 =>
      have hb0 : wr.cell? ⟨g, 0, none⟩ = some (.slice A l.length c) := (HS.cell 0).trans rfl
      replace HS := Aside0.mk HS
      replace HO := Aside0.mk HO
      cases l with
      | nil =>
        simp only [plist, Option.some.injEq] at H
        obtain rfl := H
        have hl : (([] : List S76).length : Int) = 0 := rfl
        rw [show ([] : List S76).length = 0 from rfl] at hb0
        go_wp2
        go_ret
        exact ⟨⟨_, rfl, HO.out⟩, A, c, HS.out, HC, hc⟩
      | cons t r =>
        simp only [plist] at H
        by_cases hol : out.length < 100000
        case neg => rw [if_neg hol] at H; cases H
        rw [if_pos hol] at H
        obtain ⟨bb, oo, ss, rfl, x0, x1, x2, x3, x4⟩ := head_T28 HC
        replace x0 := HS.out.old x0
        have hlp : decide (0 < (((t :: r).length : Nat) : Int)) = true := decide_eq_true (by rw [List.length_cons]; omega)
        have hlp' : 0 < (t :: r).length := by rw [List.length_cons]; omega
        have hm := Kd.C_max HC
        replace HC := Aside0.mk HC
        replace H := Aside0.mk H
        generalize hnl : (t :: r).length = nl at *
        replace hnl := Aside0.mk hnl
        clear x1 x2 x3 x4
        by_cases h7 : t.f0 = 7
        · have H2 := H.out; clear H
          rw [if_pos (.inl h7)] at H2
          cases H2
          have h7' : (t.f0 != 7) = false := by simp [h7]
          clear h7
          go_wp2
          go_ret
          have HS2 := HS.out
          rw [← hnl.out] at hc
          exact ⟨⟨_, rfl, HO.out⟩, _, c, HS2, by rw [hnl.out]; exact HC.out, hc⟩
        by_cases h8 : t.f0 = 8
        · have H2 := H.out; clear H
          rw [if_pos (.inr h8)] at H2
          cases H2
          have h7' : (t.f0 != 7) = true := by simp [h7]
          have h8' : (t.f0 != 8) = false := by simp [h8]
          clear h7 h8
          go_wp2
          go_ret
          have HS2 := HS.out
          rw [← hnl.out] at hc
          exact ⟨⟨_, rfl, HO.out⟩, _, c, HS2, by rw [hnl.out]; exact HC.out, hc⟩
        have h7' : (t.f0 != 7) = true := by simp [h7]
        have h8' : (t.f0 != 8) = true := by simp [h8]
        replace H := H.out
        rw [if_neg (by rintro (h | h); exact h7 h; exact h8 h)] at H
        clear h7 h8
        cases hn : pnode k1 t r n d with
        | none => rw [hn] at H; cases H
        | some rn =>
        rw [hn] at H
        have hSt : PSt w0 wr g (t :: r) n d wr := ⟨_, c, HS.out.again, by rw [hnl.out]; exact HC.out, by rw [hnl.out]; exact hc⟩
        have HN1 := Aside0.mk (HN.out k1 (by omega) g t r n d rn w0 wr hSt hn)
        clear hn hSt
        cases rn with
        | error e =>
          obtain ⟨at_, er⟩ := e
          cases H
          go_wp2_with fail
          refine HN1.out.mono ?_
          rintro e w2 ⟨rfl, hb⟩
          go_wp2
          exact ⟨rfl, rfl, hb⟩
        | ok q =>
          obtain ⟨x, r', n'⟩ := q
          replace H := Aside0.mk H
          go_wp2_with fail
          refine HN1.out.mono ?_
          rintro e w2 ⟨⟨v6, v7, rfl, R6, R7⟩, A', c', S2, HC2, hc2⟩
          clear HN1
          obtain ⟨A6, c6, rfl⟩ := Kd.R_slice R6
          obtain ⟨A7, c7, rfl⟩ := Kd.R_slice R7
          have HO2 := Aside0.mk (R_keepBut HO.out S2.keep hgw)
          have HS2 := Aside0.mk (HS.out.call S2)
          have HM := Aside0.mk (And.intro (R_apart R6 HO.out HS.out.size) (R_apart R7 HO.out HS.out.size))
          replace HC2 := Aside0.mk HC2
          clear R6 R7 S2 HO HS
          go_wp2_with (at_builtin; go_loud (refine Kd.R_append k78 w.heap.size rfl _ _ 23 78 _ 104 rfl Tryd.underlying23 info78 rfl (by decide) (by decide) u3 out x [.int .i64 x.f0, .int .i64 x.f1, .string x.f2, .string x.f3, .bool x.f4, .bool x.f5, .slice A6 x.f6.length c6, .slice A7 x.f7.length c7] (fun _ => True) (fun k => some k ≠ u3.ownBlock) rfl rfl (k78_mkM _ _ _ x HM.out.1 HM.out.2) (fun k hk => ⟨trivial, hk⟩) (fun _ _ => trivial) HO2.out (Below.refl _ _) HS2.out.size (by omega) ?_; intro v1 w3 HO3 _ hg3 _; have HS3 := Aside0.mk (HS2.out.grown hg3 (Kd.R_base HO2.out) hgw); clear HS2 HM hg3; obtain ⟨A1, c1, rfl⟩ := Kd.R_slice HO3; replace HO3 := Aside0.mk HO3))
          go_roundg k1
          case measure => omega
          case rel => exact ⟨by omega, out ++ [x], r', n', H.out, (by have h5 := HO3.out; rwa [List.length_append, List.length_singleton] at h5), A', c', HS3.out, HC2.out, hc2⟩
end Go.Proofs.YtkpnfejfbmandaaDoor.Px
