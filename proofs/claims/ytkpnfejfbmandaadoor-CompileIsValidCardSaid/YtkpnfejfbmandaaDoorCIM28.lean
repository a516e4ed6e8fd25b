import Derived.Test.YtkpnfejfbmandaaDoorCIM26
import Derived.Test.YtkpnfejfbmandaaDoorCIM27
import Derived.Test.YtkpnfejfbmandaaDoorCIM25
import Derived.Test.YtkpnfejfbmandaaDoorCIM6
/- The code passes Check and has the length that the nodes determine (plain law). -/
namespace Go.Proofs.YtkpnfejfbmandaaDoor.Px
open Go.RowKit Go.Proofs.YtkpnfejfbmandaaDoorW.PrintWords Go.Proofs.YtkpnfejfbmandaaDoorW.PrintLast Go.Proofs.YtkpnfejfbmandaaDoorW.PrintMore
set_option linter.unusedVariables false
set_option linter.unusedSimpArgs false
theorem e0_list : e0.toList = [] := by rw [ByteArray.toList_eq]
theorem path_nil : pathL [] = true := by simp [pathL]
theorem e0_path : pathL e0.data.toList = true := rfl
theorem insOk_check {C : List S40} {i : Nat} {x : S40} (hi : i < C.length) (h : InsOk C i x) : checkI x i C.length = 0 ∧ x.f2.size ≤ 65536 := by
  cases h with
  | text s hs =>
    refine ⟨?_, by show (0 : Nat) ≤ _; omega⟩
    simp [checkI, chk2, cleanB, fS, fP, fE, fT, e0_list, e0_path, path_nil]
  | print p k hp h0 h1 =>
    refine ⟨?_, hp.2⟩
    have a1 : decide (k < 0) = false := decide_eq_false (by omega)
    have a2 : decide (5 ≤ k) = false := decide_eq_false (by omega)
    unfold checkI
    rw [if_neg (by show ¬ ((1 : Int) < 0 ∨ (9 : Int) < 1); decide), if_neg (by simp [cleanB, fS, fP, fE, fT, e0_list]), if_neg (by show ¬ pathL p.data.toList = false; rw [hp.1]; decide)]
    unfold chk2
    dsimp only
    rw [a1, a2]
    rfl
  | jif p t hp h0 h1 =>
    refine ⟨?_, hp.2⟩
    unfold checkI
    rw [if_neg (by show ¬ ((2 : Int) < 0 ∨ (9 : Int) < 2); decide), if_neg (by simp [cleanB, fS, fP, fE, fT, e0_list]), if_neg (by show ¬ pathL p.data.toList = false; rw [hp.1]; decide)]
    have a1 : decide ((0 : Int) ≤ (t : Int)) = true := decide_eq_true (by omega)
    have a2 : decide ((t : Int) < (C.length : Int)) = true := decide_eq_true (by omega)
    have a3 : decide ((i : Int) < (t : Int)) = true := decide_eq_true (by omega)
    simp only [chk2, insT, a1, a2, a3]
    rfl
  | jump t h0 h1 =>
    refine ⟨?_, by show (0 : Nat) ≤ _; omega⟩
    unfold checkI
    rw [if_neg (by show ¬ ((3 : Int) < 0 ∨ (9 : Int) < 3); decide), if_neg (by simp [cleanB, fS, fP, fE, fT, e0_list]), if_neg (by show ¬ pathL e0.data.toList = false; rw [e0_path]; decide)]
    have a1 : decide ((0 : Int) ≤ (t : Int)) = true := decide_eq_true (by omega)
    have a2 : decide ((t : Int) < (C.length : Int)) = true := decide_eq_true (by omega)
    have a3 : decide ((i : Int) < (t : Int)) = true := decide_eq_true (by omega)
    simp only [chk2, insT, a1, a2, a3]
    rfl
  | range p t hp h0 h1 =>
    refine ⟨?_, hp.2⟩
    unfold checkI
    rw [if_neg (by show ¬ ((4 : Int) < 0 ∨ (9 : Int) < 4); decide), if_neg (by simp [cleanB, fS, fP, fE, fT, e0_list]), if_neg (by show ¬ pathL p.data.toList = false; rw [hp.1]; decide)]
    have a1 : decide ((0 : Int) ≤ (t : Int)) = true := decide_eq_true (by omega)
    have a2 : decide ((t : Int) < (C.length : Int)) = true := decide_eq_true (by omega)
    have a3 : decide ((i : Int) < (t : Int)) = true := decide_eq_true (by omega)
    simp only [chk2, insT, a1, a2, a3]
    rfl
  | next t y h0 hy h4 h5 =>
    have ht := (List.getElem?_eq_some_iff.1 hy).1
    refine ⟨?_, by show (0 : Nat) ≤ _; omega⟩
    unfold checkI
    rw [if_neg (by show ¬ ((5 : Int) < 0 ∨ (9 : Int) < 5); decide), if_neg (by simp [cleanB, fS, fP, fE, fT, e0_list]), if_neg (by show ¬ pathL e0.data.toList = false; rw [e0_path]; decide)]
    have a1 : decide ((0 : Int) ≤ ((t + 1 : Nat) : Int)) = true := decide_eq_true (by omega)
    have a2 : decide (((t + 1 : Nat) : Int) < (C.length : Int)) = true := decide_eq_true (by omega)
    have a3 : decide (((t + 1 : Nat) : Int) ≤ (i : Int)) = true := decide_eq_true (by omega)
    simp only [chk2, insT, a1, a2, a3]
    rfl
  | call p h t y hp hh h1 hy h7 =>
    refine ⟨?_, hp.2⟩
    have hcl : cleanB ⟨6, e0, p, h, 0, ((t + 1 : Nat) : Int)⟩ = true := by
      cases h with
      | true => simp [cleanB, fS, fP, fE, fT, e0_list]
      | false => rw [hh rfl]; simp [cleanB, fS, fP, fE, fT, e0_list]
    unfold checkI
    rw [if_neg (by show ¬ ((6 : Int) < 0 ∨ (9 : Int) < 6); decide), hcl, if_neg (by decide), if_neg (by show ¬ pathL p.data.toList = false; rw [hp.1]; decide)]
    have a1 : decide ((0 : Int) ≤ ((t + 1 : Nat) : Int)) = true := decide_eq_true (by omega)
    have a2 : decide (((t + 1 : Nat) : Int) < (C.length : Int)) = true := decide_eq_true (by omega)
    simp only [chk2, insT, a1, a2]
    rfl
  | plain k hk =>
    refine ⟨?_, by show (0 : Nat) ≤ _; omega⟩
    rcases hk with rfl | rfl | rfl <;> simp [checkI, chk2, cleanB, fS, fP, fE, fT, e0_list, e0_path, path_nil]
theorem chkL_ok (C : List S40) : ∀ (D : List S40) (a : Nat), a + D.length ≤ C.length → AllOk C a D → chkL C.length D a = none
  | [], _, _, _ => rfl
  | x :: xs, a, hl, h => by
    rw [List.length_cons] at hl
    have h0 := (insOk_check (by omega) (h 0 x rfl)).1
    rw [Nat.add_zero] at h0
    rw [chkL, if_pos h0]
    refine chkL_ok C xs (a + 1) (by omega) fun i y hy => ?_
    have := h (i + 1) y (by simpa using hy)
    rwa [show a + (i + 1) = a + 1 + i by omega] at this
theorem last_append (A B : List S40) (h : lastOk B = true) : lastOk (A ++ B) = true := by
  unfold lastOk at h ⊢
  cases hb : B.getLast? with
  | none => rw [hb] at h; cases h
  | some x =>
    rw [hb] at h
    rw [List.getLast?_append, hb]
    exact h
theorem defC_last (tg : ByteArray → Int) (x0 : S40) (h0 : (x0.f0 == 9 || x0.f0 == 7) = true) : ∀ (l : List S78) (a : Nat) (es : List Int), lastOk (x0 :: defC tg l a es) = true
  | [], a, es => by simp [defC, lastOk, h0]
  | x :: xs, a, es => by
    rw [defC]
    split
    · rw [← List.cons_append]
      exact last_append _ _ (defC_last tg _ (by decide) xs _ _)
    · exact defC_last tg x0 h0 xs a _
theorem codeS_last (l : List S78) (es : List Int) : lastOk (codeS l es) = true := by
  rw [codeS_is]
  exact last_append _ _ (defC_last _ _ (by decide) l _ _)
mutual
theorem sz_ci : ∀ {l : List S78}, wfL false l → szL l = ciL l
  | [], _ => by simp [szL, ciL]
  | x :: xs, h => by rw [szL, ciL_cons, szn_ci h.1, sz_ci h.2]
theorem szn_ci : ∀ {x : S78}, wfN false x → szN x = ciN x
  | ⟨k, a, S, nm, f4, f5, b, l⟩, h => by
    have W := wfN_iff.1 h
    have h6 : k ≠ 6 := fun e => by have := W.def_ e; cases this
    have k0 := W.tk.k0
    have k6 := W.k6
    have hb := sz_ci W.b
    have hl := sz_ci W.l
    have hno : k ≠ 2 → f5 = false ∧ l = [] := fun hk => by
      have : f5 = false := by
        cases hf : f5 with
        | false => rfl
        | true => exact absurd (W.els hf) hk
      exact ⟨this, W.noels this⟩
    rw [szN, ciN_eq]
    dsimp only at hb hl k0 k6 ⊢
    by_cases hk : k = 0 ∨ k = 1 ∨ k = 4 ∨ k = 5
    · obtain ⟨e1, e2⟩ := hno (by omega)
      have e3 : b = [] := W.leaf.resolve_left (by show ¬ opK k; unfold opK; omega)
      subst e1 e2 e3
      rw [if_pos hk, if_neg (by simp; omega)]
      simp [ciL]
    · rw [if_neg hk]
      by_cases h2 : k = 2
      · subst h2
        rw [if_pos rfl]
        cases f5
        · rw [if_neg (by decide), if_neg (by decide)]
          have := W.noels rfl
          dsimp only at this
          subst this
          simp only [ciL]; omega
        · rw [if_pos rfl, if_pos (by decide)]; omega
      · rw [if_neg h2]
        have h3 : k = 3 := by
          have : (hdT ⟨k, a, S, nm, f4, f5, b, l⟩).f0 = k := rfl
          rw [this] at k0
          omega
        obtain ⟨e1, e2⟩ := hno (by omega)
        subst e1 e2 h3
        rw [if_pos rfl, if_pos (by decide)]
        simp only [ciL]; omega
end
theorem sz_top : ∀ {l : List S78}, wfL true l → szL l + defZ l = ciL l
  | [], _ => by simp [szL, defZ, ciL]
  | x :: xs, h => by
    have ih := sz_top h.2
    rw [szL, defZ, ciL_cons]
    by_cases h6 : x.f0 = 6
    · rw [if_pos h6]
      have W := wfN_iff.1 h.1
      obtain ⟨_, e2, _⟩ := N6 (tg := tg0) h6 0 []
      have hf5 : x.f5 = false := by
        cases hf : x.f5 with
        | false => rfl
        | true => exact absurd (W.els hf) (by omega)
      have hl := W.noels hf5
      rw [e2, ciN_eq, hf5, hl, sz_ci W.b, if_neg (by rw [h6]; decide)]
      simp only [ciL]; omega
    · rw [if_neg h6]
      have hx : wfN false x := by
        rw [wfN_iff]
        have W := wfN_iff.1 h.1
        exact ⟨W.tk, W.k6, fun e => absurd e h6, W.leaf, W.els, W.noels, W.b, W.l⟩
      rw [szn_ci hx]; omega
theorem comp_check {s : ByteArray} {r : List S78 × Int × Int} (h : Ev (fun k => parse_Parse.f k s) r) (he : (compF r).2.2 = 0) :
    chkF (compF r).1 = (((compF r).1.length : Int), 0) ∧ (∀ x ∈ (compF r).1, x.f2.size ≤ 65536) ∧ (compF r).1.length = ciL r.1 + 1 := by
  obtain ⟨h1, h2, h3, h4, h5⟩ := comp_ok h he
  obtain ⟨hw, hn⟩ := parsed_ok h
  have hlen : (compF r).1.length = ciL r.1 + 1 := by
    rw [h4]
    show (codeS r.1 (inferF r.1).1).length = _
    rw [codeS_len, ← sz_top hw]; omega
  have hci := ci_le r.1
  refine ⟨?_, fun x hx => ?_, hlen⟩
  · unfold chkF
    rw [if_neg (by omega), chkL_ok _ _ 0 (by omega) h5]
    dsimp only
    rw [if_pos (by rw [h4]; exact codeS_last _ _)]
  · obtain ⟨i, hi⟩ := List.mem_iff_getElem?.1 hx
    exact (insOk_check (C := (compF r).1) (by have := (List.getElem?_eq_some_iff.1 hi).1; omega) (h5 i x hi)).2
end Go.Proofs.YtkpnfejfbmandaaDoor.Px
namespace Go.Proofs.YtkpnfejfbmandaaDoor.Px
open Go.RowKit Go.Proofs.YtkpnfejfbmandaaDoorW.PrintWords Go.Proofs.YtkpnfejfbmandaaDoorW.PrintLast Go.Proofs.YtkpnfejfbmandaaDoorW.PrintMore
set_option linter.unusedVariables false
set_option linter.unusedSimpArgs false
def insC (x : S40) : List Value := [.int .i64 x.f0, .string x.f1, .string x.f2, .bool x.f3, .int .i64 x.f4, .int .i64 x.f5]
theorem C_lit4 {W : World} {B : Nat} (x0 x1 x2 x3 : S40) (hb : W.heap[B]? = some (.cells (insC x0 ++ insC x1 ++ insC x2 ++ insC x3).toArray 40 (0, 0))) : Kd.C k40 W (some ⟨B, 0, none⟩) [x0, x1, x2, x3].length [x0, x1, x2, x3] := by
  refine ⟨rfl, by simp, fun _ => ⟨⟨B, 0, none⟩, rfl, fun j p hj => ⟨insC p, rfl, k40_mk W p, fun i u hu => ?_⟩⟩⟩
  have hi : i < 6 := by have := (List.getElem?_eq_some_iff.1 hu).1; simpa [insC] using this
  have hc := blk_cell hb (j * 6 + i)
  have e : (⟨B, 0, none⟩ : Addr).add (j * k40.sz + i) = ⟨B, j * 6 + i, none⟩ := by
    show (⟨B, 0, none⟩ : Addr).add (j * 6 + i) = _
    unfold Addr.add
    simp
    try (intro h; omega)
  rw [e, hc]
  match j, hj with
  | 0, hj =>
    obtain rfl : x0 = p := by simpa using hj
    rw [← hu]
    match i, hi with
    | 0, _ | 1, _ | 2, _ | 3, _ | 4, _ | 5, _ => rfl
  | 1, hj =>
    obtain rfl : x1 = p := by simpa using hj
    rw [← hu]
    match i, hi with
    | 0, _ | 1, _ | 2, _ | 3, _ | 4, _ | 5, _ => rfl
  | 2, hj =>
    obtain rfl : x2 = p := by simpa using hj
    rw [← hu]
    match i, hi with
    | 0, _ | 1, _ | 2, _ | 3, _ | 4, _ | 5, _ => rfl
  | 3, hj =>
    obtain rfl : x3 = p := by simpa using hj
    rw [← hu]
    match i, hi with
    | 0, _ | 1, _ | 2, _ | 3, _ | 4, _ | 5, _ => rfl
  | j + 4, hj => simp at hj
set_option maxHeartbeats 1000000 in
set_option maxRecDepth 100000 in
theorem alive17_any (w : World) (hG : GS w) : Calls Tryd.prog 14 #[] w fun e w' => e = .returned (.bool true) ∧ Below w.heap.size w w' := by
  have hco := Aside0.mk (compile_any (parse_12 al17a) w hG)
  have hcf : compF (al17l, 18, 0) = (al17c, 0, 0) := by unfold compF; rw [if_pos rfl]; exact al17b
  rw [hcf] at hco
  replace hcf := Aside0.mk hcf
  clear hG
  go_enter Tryd.func14, Tryd.ntmps14
  go_wp2_with (first | (go_at_call 15; refine hco.out.mono ?_; rintro ee w1 ⟨v, rfl, HR, HB⟩; obtain ⟨A, c, rfl⟩ := Kd.R_slice HR; have hC := Aside0.mk (Kd.R_reads' HR).2.2; replace HB := Aside0.mk HB) | (go_at_call 23; refine (equal_ins al17c al17c A (some ⟨w1.heap.size, 0, none⟩) c 4 _ (Kd.C_below hC.out (below_alloc (Below.refl _ _) _)) (C_lit4 ⟨0, ⟨#[97]⟩, ⟨#[]⟩, false, 0, 0⟩ ⟨2, ⟨#[]⟩, ⟨#[116]⟩, false, 0, 3⟩ ⟨0, ⟨#[98]⟩, ⟨#[]⟩, false, 0, 0⟩ ⟨9, ⟨#[]⟩, ⟨#[]⟩, false, 0, 0⟩ (blk_new _ _))).mono ?_; rintro ee w2 ⟨⟨b, rfl, hb⟩, HB2⟩; obtain rfl : b = true := hb.2 rfl; replace HB2 := Aside0.mk HB2))
  go_ret
  exact ⟨rfl, below_step HB.out (below_step (below_alloc (Below.refl _ _) _) HB2.out)⟩
end Go.Proofs.YtkpnfejfbmandaaDoor.Px
namespace Go.Proofs.YtkpnfejfbmandaaDoor.Px
open Go.ChangeShapes Go.WideShapes Go.ChangeAt Go.RowKit
set_option linter.unusedVariables false
set_option linter.unusedSimpArgs false
theorem cells133 : Tryd.prog.cellsOf 133 = 4 := by kernel_rfl
theorem nameForms : Tryd.prog.globalNamed "tmplpipe/compile.forms" = some 0 := by kernel_rfl
theorem typeForms : (Tryd.prog.globals[0]?).map (·.type) = some 134 := by kernel_rfl
set_option maxRecDepth 100000 in
theorem form_cells {w : World} {fuel : Nat} {cs : List Value} {a b c d : Bool} {p : List MemPlace}
    (h : DataW.trod (fun _ => ()) Tryd.prog w 0 (fun _ => true) false fuel 133 cs = some (.agg [.lit (.bool a), .lit (.bool b), .lit (.bool c), .lit (.bool d)], p)) : cs = [.bool a, .bool b, .bool c, .bool d] := by
  obtain ⟨xs, n, rfl, hx, hl, hxl, hall⟩ := DataW.trod_struct Tryd.underlying133 h
  rw [cells133] at hl
  have h0 : DataW.trod (fun _ => ()) Tryd.prog w 0 (fun _ => true) false n 4 ((cs.drop 0).take (Tryd.prog.cellsOf 4)) = xs[0]? := hall 0 _ rfl
  have h1 : DataW.trod (fun _ => ()) Tryd.prog w 0 (fun _ => true) false n 4 ((cs.drop 1).take (Tryd.prog.cellsOf 4)) = xs[1]? := hall 1 _ rfl
  have h2 : DataW.trod (fun _ => ()) Tryd.prog w 0 (fun _ => true) false n 4 ((cs.drop 2).take (Tryd.prog.cellsOf 4)) = xs[2]? := hall 2 _ rfl
  have h3 : DataW.trod (fun _ => ()) Tryd.prog w 0 (fun _ => true) false n 4 ((cs.drop 3).take (Tryd.prog.cellsOf 4)) = xs[3]? := hall 3 _ rfl
  match cs, hl with
  | [c0, c1, c2, c3], _ =>
    match xs, hxl with
    | [x0, x1, x2, x3], _ =>
      simp only [Prod.mk.injEq, List.map_cons, List.map_nil, DataW.agg.injEq, List.cons.injEq, and_true] at hx
      obtain ⟨⟨e0, e1, e2, e3⟩, _⟩ := hx
      rw [cells4] at h0 h1 h2 h3
      obtain ⟨b0, g0, q0⟩ := DataW.trod_bool Tryd.underlying4 (x := x0) h0
      obtain ⟨b1, g1, q1⟩ := DataW.trod_bool Tryd.underlying4 (x := x1) h1
      obtain ⟨b2, g2, q2⟩ := DataW.trod_bool Tryd.underlying4 (x := x2) h2
      obtain ⟨b3, g3, q3⟩ := DataW.trod_bool Tryd.underlying4 (x := x3) h3
      rw [q0] at e0
      rw [q1] at e1
      rw [q2] at e2
      rw [q3] at e3
      simp only [DataW.lit.injEq, Lit.bool.injEq] at e0 e1 e2 e3
      simp at g0 g1 g2 g3
      rw [g0, g1, g2, g3, e0, e1, e2, e3]
theorem form_at {W : World} (h : Lib.VarReads Tryd.prog W "tmplpipe/compile.forms" Rows.laid_tmplpipe_compile_forms) (i : Nat) (hi : i < 10) (a b c d : Bool)
    (hd : ∀ ds, (Rows.laid_tmplpipe_compile_forms : DataW Unit) = .agg ds → ds[i]? = some (.agg [.lit (.bool a), .lit (.bool b), .lit (.bool c), .lit (.bool d)])) :
    W.cell? ⟨0, i * 4, none⟩ = some (.bool a) ∧ W.cell? ⟨0, i * 4 + 1, none⟩ = some (.bool b) ∧ W.cell? ⟨0, i * 4 + 2, none⟩ = some (.bool c) ∧ W.cell? ⟨0, i * 4 + 3, none⟩ = some (.bool d) := by
  obtain ⟨g, t, cs, fuel, p, hg, hty, hvar, htr⟩ := h
  obtain rfl := Option.some.inj (nameForms.symm.trans hg)
  obtain rfl := Option.some.inj (typeForms.symm.trans hty)
  obtain ⟨fuel', dd, q, hdi, he⟩ := Lib.array_elem Tryd.underlying134 htr i hi
  have h1 := hd _ rfl
  obtain rfl := Option.some.inj (hdi.symm.trans h1)
  have hc := form_cells he
  rw [cells133] at hc
  have e0 := congrArg (·[0]?) hc
  have e1 := congrArg (·[1]?) hc
  have e2 := congrArg (·[2]?) hc
  have e3 := congrArg (·[3]?) hc
  simp only [List.getElem?_take, List.getElem?_drop] at e0 e1 e2 e3
  refine ⟨?_, ?_, ?_, ?_⟩
  · rw [World.var?_cell nameForms hvar (i * 4), ← Array.getElem?_toList]; simpa using e0
  · rw [World.var?_cell nameForms hvar (i * 4 + 1), ← Array.getElem?_toList]; simpa using e1
  · rw [World.var?_cell nameForms hvar (i * 4 + 2), ← Array.getElem?_toList]; simpa using e2
  · rw [World.var?_cell nameForms hvar (i * 4 + 3), ← Array.getElem?_toList]; simpa using e3
abbrev laidAllF : List (String × DataW Unit) := [("unicode/utf8.acceptRanges", Rows.laid_unicode_utf8_acceptRanges), ("tmplpipe/lex.shapes", Rows.laid_tmplpipe_lex_shapes), ("tmplpipe/compile.forms", Rows.laid_tmplpipe_compile_forms), ("unicode/utf8.first", Rows.laid_unicode_utf8_first)]
structure GF (w : World) : Prop where
  g : GS w
  f : Forms w
theorem GF.below {w w1 : World} (h : GF w) (hb : Below w.heap.size w w1) : GF w1 := ⟨h.g.below hb, h.f.below hb⟩
theorem gf_of {W : World} (hL : laidMetH Tryd.prog laidAllF W) (hS : W.ShapedOpen Tryd.prog) : GF W := by
  have hV := Lib.laidMet.reads (n := "tmplpipe/lex.shapes") hL (.tail _ (.head _))
  have hF := Lib.laidMet.reads (n := "tmplpipe/compile.forms") hL (.tail _ (.tail _ (.head _)))
  have hm := cell_of_shapedOpen_int (g := 2) (t := 3) (zero := #[.int .i64 0]) (k := .i64) hS size_globals (by kernel_rfl) rfl (by kernel_rfl) (by kernel_rfl) Tryd.underlying3
  have all : ∀ k : Int, 1 ≤ k → k ≤ 8 → W.cell? ⟨1, k.toNat * 3, none⟩ = some (.bool (named k)) ∧ W.cell? ⟨1, k.toNat * 3 + 1, none⟩ = some (.int .i64 (leastOf k)) ∧ W.cell? ⟨1, k.toNat * 3 + 2, none⟩ = some (.int .i64 (mostOf k)) := by
    intro k h1 h8
    have hc : k = 1 ∨ k = 2 ∨ k = 3 ∨ k = 4 ∨ k = 5 ∨ k = 6 ∨ k = 7 ∨ k = 8 := by omega
    rcases hc with rfl | rfl | rfl | rfl | rfl | rfl | rfl | rfl
    all_goals exact shape_at hV _ (by decide) _ _ _ (fun ds e => by cases e; rfl)
  have alf : ∀ k : Int, 0 ≤ k → k ≤ 9 → W.cell? ⟨0, k.toNat * 4, none⟩ = some (.bool (fS k)) ∧ W.cell? ⟨0, k.toNat * 4 + 1, none⟩ = some (.bool (fP k)) ∧ W.cell? ⟨0, k.toNat * 4 + 2, none⟩ = some (.bool (fE k)) ∧ W.cell? ⟨0, k.toNat * 4 + 3, none⟩ = some (.bool (fT k)) := by
    intro k h1 h8
    have hc : k = 0 ∨ k = 1 ∨ k = 2 ∨ k = 3 ∨ k = 4 ∨ k = 5 ∨ k = 6 ∨ k = 7 ∨ k = 8 ∨ k = 9 := by omega
    rcases hc with rfl | rfl | rfl | rfl | rfl | rfl | rfl | rfl | rfl | rfl
    all_goals exact form_at hF _ (by decide) _ _ _ _ (fun ds e => by cases e; rfl)
  exact ⟨⟨⟨hm⟩, ⟨fun k a b => (all k a b).1, fun k a b => (all k a b).2.1, fun k a b => (all k a b).2.2⟩⟩, ⟨fun k a b => (alf k a b).1, fun k a b => (alf k a b).2.1, fun k a b => (alf k a b).2.2.1, fun k a b => (alf k a b).2.2.2⟩⟩
noncomputable def laidWorldF (os : Os) : World :=
  let w0 := World.holding Tryd.prog os ⟨#[], #[], []⟩
  let put (h : Array Obj) (g : Nat) (cs : Array Value) : Array Obj := h.modify g fun
    | .cells _ t frozen => .cells cs t frozen
    | o => o
  let sh (n : Bool) (a b : Int) : List Value := [.bool n, .int .i64 a, .int .i64 b]
  let fo (a b c d : Bool) : List Value := [.bool a, .bool b, .bool c, .bool d]
  let h0 := put w0.heap 0 ((fo true false false false) ++ (fo false true true false) ++ (fo false true false true) ++ (fo false false false true) ++ (fo false true false true) ++ (fo false false false true) ++ (fo false true false true) ++ (fo false false false false) ++ (fo false false false false) ++ (fo false false false false)).toArray
  let h1 := put h0 1 ((sh false 0 0) ++ (sh false 1 1) ++ (sh false 1 1) ++ (sh false 1 1) ++ (sh true 0 1) ++ (sh false 0 0) ++ (sh true 0 0) ++ (sh false 0 0) ++ (sh false 0 0)).toArray
  let h2 := put h1 3 (Lib.firstTab.map fun z => Value.int .u8 z).toArray
  let h3 := put h2 4 ((List.range 16).flatMap fun i => [Value.int .u8 (Lib.accLo i), Value.int .u8 (Lib.accHi i)]).toArray
  { w0 with heap := h3 }
theorem laid_metF (os : Os) (args : Array Value) : laidMet Tryd.prog laidAllF ((laidWorldF os).forCall (fun _ _ => 0) ⟨#[], args, []⟩).memory :=
  laidMet_of_run' 8 (by kernel_rfl) (by kernel_rfl)
end Go.Proofs.YtkpnfejfbmandaaDoor.Px
namespace Go.Proofs.YtkpnfejfbmandaaDoor.Px
open Go.RowKit Go.Proofs.YtkpnfejfbmandaaDoorW.PrintWords Go.Proofs.YtkpnfejfbmandaaDoorW.PrintLast Go.Proofs.YtkpnfejfbmandaaDoorW.PrintMore
set_option linter.unusedVariables false
set_option linter.unusedSimpArgs false
theorem ref12_any {s : ByteArray} (hs : s.size ≤ 5000) {r : List S78 × Int × Int} (h : Ev (fun k => parse_Parse.f k s) r) (w : World) :
    Calls Tryd.prog 20 #[.string s] w fun e w' => ∃ (A : Option Addr) (c : Nat), e = .returned (.tuple #[.slice A r.1.length c, .int .i64 r.2.1, .int .i64 r.2.2]) ∧ Kd.C k78 w' A r.1.length r.1 ∧ r.1.length ≤ c ∧ Below w.heap.size w w' := by
  obtain ⟨K, hK⟩ := parse_ref s hs h
  refine (tmplpiperef12_Parse.calls K s r.1 r.2.1 r.2.2 w (hK K (Nat.le_refl _))).mono ?_
  rintro e w' ⟨v, rfl, HR, HB⟩
  obtain ⟨A, c, rfl⟩ := Kd.R_slice HR
  have q := Kd.R_reads' HR
  exact ⟨A, c, rfl, q.2.2, q.2.1, HB⟩
set_option maxHeartbeats 1000000 in
set_option maxRecDepth 100000 in
theorem valid_walk (s : ByteArray) (w : World) (hG : GF w) : Calls Tryd.prog 7 #[.string s] w fun e w' => e = .returned (.bool true) ∧ Below w.heap.size w w' := by
  have hal := Aside0.mk (fun W (hB : Below w.heap.size w W) => alive17_any W (hG.g.below hB))
  by_cases hs : s.size > 5000
  · have hs' : decide ((5000 : Int) < (s.size : Int)) = true := decide_eq_true (by omega)
    clear hG
    go_enter Tryd.func7, Tryd.ntmps7
    go_wp2_with (go_at_call 14; refine (hal.out _ (Below.refl _ _)).mono ?_; rintro ee w1 ⟨rfl, HB⟩; replace HB := Aside0.mk HB)
    go_ret
    exact ⟨rfl, HB.out⟩
  have hs' : decide ((5000 : Int) < (s.size : Int)) = false := decide_eq_false (by omega)
  obtain ⟨r, hr⟩ := parse_ev s
  have hco := Aside0.mk (compile_any hr w hG.g)
  have hre := Aside0.mk (fun W => ref12_any (by omega) hr W)
  have hok := Aside0.mk (fun he => comp_check hr he)
  obtain ⟨-, hn⟩ := parsed_ok hr
  obtain ⟨l, pa, pe⟩ := r
  dsimp only at hn hre
  generalize compF (l, pa, pe) = q at *
  obtain ⟨C, a, e⟩ := q
  dsimp only at hok
  clear hr
  replace hG := Aside0.mk hG
  by_cases he : e = 0
  case neg =>
    have he1 : (e != 0) = true := by simp [he]
    replace he := Aside0.mk he
    go_enter Tryd.func7, Tryd.ntmps7
    go_wp2_with (first | (go_at_call 15; refine hco.out.mono ?_; rintro ee w1 ⟨v, rfl, HR, HB⟩; obtain ⟨A, c, rfl⟩ := Kd.R_slice HR; replace HB := Aside0.mk HB; clear HR) | (go_at_call 14; refine (hal.out _ HB.out).mono ?_; rintro ee w3 ⟨rfl, HB3⟩; replace HB3 := Aside0.mk (below_step HB.out HB3)))
    go_ret
    exact ⟨rfl, HB3.out⟩
  have he1 : (e != 0) = false := by simp [he]
  obtain ⟨k1, k2, k3⟩ := hok.out he
  subst he
  have hci := ci_le l
  have hlen : ((C.length : Int) == IntKind.i64.wrap ((ciL l : Int) + 1)) = true := by rw [wrap64_i64, w64 (by omega) (by omega), k3]; simp
  have hlen2 : ((C.length : Int) == wrap64 ((ciL l : Int) + 1)) = true := by rw [w64 (by omega) (by omega), k3]; simp
  have hck := Aside0.mk (fun A c W (hB : Below w.heap.size w W) hC => checks_any C A c W (hG.out.g.below hB).g (hG.out.f.below hB) hC k2)
  rw [k1] at hck
  have hct := Aside0.mk (fun A c W hC hc => count17_any l A c W hC hc (by omega))
  replace k3 := Aside0.mk k3
  clear hok k1 k2 hci
  go_enter Tryd.func7, Tryd.ntmps7
  go_wp2_with (first | (go_at_call 15; refine hco.out.mono ?_; rintro ee w1 ⟨v, rfl, HR, HB⟩; obtain ⟨A, c, rfl⟩ := Kd.R_slice HR; have hC := Aside0.mk (Kd.R_reads' HR).2.2; replace HB := Aside0.mk HB; clear HR) | (go_at_call 20; refine (hre.out _).mono ?_; rintro ee w2 ⟨A2, c2, rfl, hL, hlc, HB2⟩; replace hC := Aside0.mk (Kd.C_below hC.out HB2); replace HB2 := Aside0.mk (below_step HB.out HB2); replace hL := Aside0.mk hL) | (go_at_call 18; refine (hck.out _ _ _ HB2.out hC.out).mono ?_; rintro ee w3 ⟨rfl, HB3⟩; replace hL := Aside0.mk (Kd.C_below hL.out HB3); replace HB3 := Aside0.mk (below_step HB2.out HB3)) | (go_at_call 14; refine (hal.out _ HB3.out).mono ?_; rintro ee w4 ⟨rfl, HB4⟩; replace hL := Aside0.mk (Kd.C_below hL.out HB4); replace HB4 := Aside0.mk (below_step HB3.out HB4)) | (go_at_call 21; refine (hct.out _ _ _ hL.out hlc).mono ?_; rintro ee w5 ⟨rfl, HB5⟩; replace HB5 := Aside0.mk (below_step HB4.out HB5)))
  go_ret
  exact ⟨by rfl, HB5.out⟩
end Go.Proofs.YtkpnfejfbmandaaDoor.Px
