import Derived.Test.YtkpnfejfbmandaaDoorCIM8
import Derived.StillTailTactics
/- (*parse.parser).block. -/
namespace Go.Proofs.YtkpnfejfbmandaaDoor.Px
open Go.RowKit Go.Proofs.YtkpnfejfbmandaaDoorW.PrintWords Go.Proofs.YtkpnfejfbmandaaDoorW.PrintLast Go.Proofs.YtkpnfejfbmandaaDoorW.PrintMore
set_option linter.unusedVariables false
set_option linter.unusedSimpArgs false
def ndC (t : S76) (h : Bool) (v6 v7 : Value) : Array Value := #[.int .i64 t.f0, .int .i64 t.f1, .string t.f2, .string t.f3, .bool t.f4, .bool h, v6, v7]
def PBPost (w0 wn w : World) (g b : Nat) (d : Int) : PA S78 → Ending → World → Prop
  | .ok (x, l', n'), e, w' => e = .returned (.tuple #[]) ∧ PSt w0 wn g l' n' d w' ∧
      (∃ v6 v7 : Value, w'.heap[b]? = some (.cells #[.int .i64 x.f0, .int .i64 x.f1, .string x.f2, .string x.f3, .bool x.f4, .bool x.f5, v6, v7] 78 (0, 0)) ∧ Kd.R k78 78 w' w.heap.size (fun _ => True) v6 x.f6 ∧ Kd.R k78 78 w' w.heap.size (fun _ => True) v7 x.f7) ∧
      (∀ k o, w.heap[k]? = some o → k ≠ g → k ≠ b → w'.heap[k]? = some o)
  | .error (at_, er), e, w' => e = boom at_ er ∧ Below w0.heap.size w0 w'
abbrev pblk.Con (k : Nat) : Prop := ∀ (g b : Nat) (t : S76) (r : List S76) (n d : Int) (res : PA S78) (w0 wn w : World) (hS : PSt w0 wn g r n d w)
  (hB : w.heap[b]? = some (.cells (ndC t false (.slice none 0 0) (.slice none 0 0)) 78 (0, 0))) (hb : wn.heap.size ≤ b) (hgb : g ≠ b) (hg : g < wn.heap.size) (hd : 0 ≤ d ∧ d ≤ 100000) (h : pblk k t r n d = some res),
  Calls Tryd.prog 79 #[.pointer (some ⟨g, 0, none⟩), .pointer (some ⟨b, 0, none⟩)] w fun e w' => PBPost w0 wn w g b d res e w'
structure BkR (w0 wn w : World) (g b : Nat) (t : S76) (d : Int) (res : PA S78) (h : Bool) (body els : List S78) (r : List S76) (n : Int) (v6 v7 : Value) (W : World) : Prop where
  e : res = endB t h body els r n
  st : PSt w0 wn g r n (d + 1) W
  blk : W.heap[b]? = some (.cells (ndC t h v6 v7) 78 (0, 0))
  r6 : Kd.R k78 78 W w.heap.size (fun _ => True) v6 body
  r7 : Kd.R k78 78 W w.heap.size (fun _ => True) v7 els
  keep : ∀ k o, w.heap[k]? = some o → k ≠ g → k ≠ b → W.heap[k]? = some o
def BkRel (w0 wn w : World) (g b : Nat) (t : S76) (d : Int) (res : PA S78) (W : World) : Prop := ∃ h body els r n v6 v7, BkR w0 wn w g b t d res h body els r n v6 v7 W
set_option maxHeartbeats 4000000 in
set_option maxRecDepth 100000 in
theorem pblk.step (k : Nat) (ihl : plist.Con k) : pblk.Con k := by
  intro g b t r n d res w0 wn w hS hB hb hgb hgn hd h
  obtain ⟨A, c, HS, HC, hc⟩ := hS
  have hgw : g < w.heap.size := HS.lt
  have hbw : b < w.heap.size := blk_lt hB
  have hsz := HS.size
  have HL := Aside0.mk ihl; clear ihl
  have hb2 : w.cell? ⟨g, 2, none⟩ = some (.int .i64 d) := (HS.cell 2).trans rfl
  have hf2 := HS.frozen 2
  have hw1 : IntKind.i64.wrap (d + 1) = d + 1 := by rw [IntKind.wrap_i64]; omega
  have HS1 := Aside0.mk ((HS.set 2 (.int .i64 (d + 1))).cast (cs' := stP A c r n (d + 1)) rfl)
  have HB1 := Aside0.mk (show (w.setCell ⟨g, 2, none⟩ (.int .i64 (d + 1))).heap[b]? = some (.cells (ndC t false (.slice none 0 0) (.slice none 0 0)) 78 (0, 0)) from blk_far' hB (Ne.symm hgb) _)
  have hkeep1 := Aside0.mk (show ∀ k o, w.heap[k]? = some o → k ≠ g → k ≠ b → (w.setCell ⟨g, 2, none⟩ (.int .i64 (d + 1))).heap[k]? = some o from fun k o ho hkg _ => by
    rw [← ho]; simp only [World.setCell, Array.getElem?_modify]; rw [if_neg (Ne.symm hkg)])
  have hsize1 : (w.setCell ⟨g, 2, none⟩ (.int .i64 (d + 1))).heap.size = w.heap.size := by simp
  have H := Aside0.mk h; clear h
  clear hB
  replace HC := Aside0.mk HC
  replace hd := Aside0.mk hd
  go_enter Tryd.func79, Tryd.ntmps79
  go_wp2_with fail
  generalize w.setCell ⟨g, 2, none⟩ (.int .i64 (d + 1)) = w1 at *
  clear HS hb2 hf2 hw1
  unfold pblk at H
  have hSt1 : PSt w0 w1 g r n (d + 1) w1 := ⟨A, c, HS1.out.again, HC.out, hc⟩
  cases hp : plist k r n (d + 1) [] with
  | none => have H2 := H.out; rw [hp] at H2; cases H2
  | some res1 =>
  have HL1 := Aside0.mk (HL.out g r n (d + 1) res1 w0 w1 hSt1 hp)
  replace H := H.out
  rw [hp] at H
  clear hp hSt1
  cases res1 with
  | error e =>
    obtain ⟨at_, er⟩ := e
    cases H
    refine HL1.out.mono ?_
    rintro e w2 ⟨rfl, hbe⟩
    go_wp2
    exact ⟨rfl, rfl, hbe⟩
  | ok q =>
  obtain ⟨body, r1, n1⟩ := q
  replace H := Aside0.mk H
  refine HL1.out.mono ?_
  rintro e w2 ⟨⟨v6, rfl, R6⟩, A2, c2, S2, HC2, hc2⟩
  clear HL1 HC hc
  have HS2 := Aside0.mk (HS1.out.call S2)
  have hkeep2 := Aside0.mk (show ∀ k o, w.heap[k]? = some o → k ≠ g → k ≠ b → w2.heap[k]? = some o from fun k o ho hkg hkb => S2.other (hkeep1.out k o ho hkg hkb) hkg)
  have HB2 := S2.other HB1.out (Ne.symm hgb)
  rw [hsize1] at R6
  have hsz2 : w.heap.size ≤ w2.heap.size := by have := S2.size; omega
  obtain ⟨A6, c6, rfl⟩ := Kd.R_slice R6
  clear S2 HS1 HB1 hkeep1
  have c80 : w2.cell? ⟨b, 0, none⟩ = some (.int .i64 t.f0) := (blk_cell HB2 0).trans rfl
  have c81 : w2.cell? ⟨b, 1, none⟩ = some (.int .i64 t.f1) := (blk_cell HB2 1).trans rfl
  have c85 : w2.cell? ⟨b, 5, none⟩ = some (.bool false) := (blk_cell HB2 5).trans rfl
  have c86 : w2.cell? ⟨b, 6, none⟩ = some (.slice none 0 0) := (blk_cell HB2 6).trans rfl
  have c87 : w2.cell? ⟨b, 7, none⟩ = some (.slice none 0 0) := (blk_cell HB2 7).trans rfl
  have z85 := blk_frozen HB2 5
  have z86 := blk_frozen HB2 6
  have z87 := blk_frozen HB2 7
  have hb0 : w2.cell? ⟨g, 0, none⟩ = some (.slice A2 r1.length c2) := (HS2.out.cell 0).trans rfl
  have hf0 := HS2.out.frozen 0
  have hbg : b ≠ g := Ne.symm hgb
  cases r1 with
  | nil =>
    have H2 := H.out; clear H
    cases H2
    rw [show ([] : List S76).length = 0 from rfl] at hb0
    have HB3 := Aside0.mk (HS2.out.far' (j := 6) hb hgb (.slice A6 body.length c6)).bel
    clear HB2 HS2 R6 HC2 hkeep2
    go_wp2
    go_region_dies
    all_goals
      go_wp2_with (go_at_call 33; (with_reducible refine (must_no _ _ _).mono ?_); rintro e w' ⟨rfl, rfl⟩)
      exact ⟨rfl, rfl, by repeat (first | exact HB3.out | apply below_alloc | apply pw_below_drewN | apply below_drew1)⟩
  | cons t1 r2 =>
  obtain ⟨bb, oo, ss, rfl, x0, x1, _, _, _⟩ := head_T28 HC2
  rw [List.length_cons] at hb0 hc2 HC2
  have hCt := Aside0.mk (cutT_C (by rw [List.length_cons]; exact HC2) (by rw [List.length_cons]; exact hc2) : Kd.C k76 w0 (cutT (some ⟨bb, oo, ss⟩) c2) r2.length r2)
  have hw1 := cutT1 (some ⟨bb, oo, ss⟩) (r2.length + 1) c2 (by omega)
  simp only [Nat.add_sub_cancel] at hw1
  have hm := Kd.C_max HC2
  have hx1 := World.block_lt_of_cell? _ _ x1
  have hb1l : bb < wn.heap.size := Nat.lt_of_lt_of_le hx1 HS2.out.le
  replace x0 := HS2.out.old x0
  replace x1 := HS2.out.old x1
  have hlen : (0 : Int) < ((r2.length + 1 : Nat) : Int) := by omega
  have hlen' : 0 < r2.length + 1 := by omega
  have hbb : bb ≠ b := by omega
  replace HC2 := Aside0.mk HC2
  replace HB2 := Aside0.mk HB2
  replace R6 := Aside0.mk R6
  go_upto_if 31 with fail
  have HS3 := Aside0.mk (HS2.out.far' (j := 6) hb hgb (.slice A6 body.length c6))
  have HB3 := Aside0.mk (show (w2.setCell ⟨b, 6, none⟩ (.slice A6 body.length c6)).heap[b]? = some (.cells (ndC t false (.slice A6 body.length c6) (.slice none 0 0)) 78 (0, 0)) from blk_set HB2.out 6 _)
  have R63 := Aside0.mk (show Kd.R k78 78 (w2.setCell ⟨b, 6, none⟩ (.slice A6 body.length c6)) w.heap.size (fun _ => True) (.slice A6 body.length c6) body from R_farB R6.out hbw _)
  have hkeep3 := Aside0.mk (show ∀ k o, w.heap[k]? = some o → k ≠ g → k ≠ b → (w2.setCell ⟨b, 6, none⟩ (.slice A6 body.length c6)).heap[k]? = some o from fun k o ho hkg hkb => by
    have h2 := hkeep2.out k o ho hkg hkb
    rw [← h2]; simp only [World.setCell, Array.getElem?_modify]; rw [if_neg (Ne.symm hkb)])
  have hsz3 : w.heap.size ≤ (w2.setCell ⟨b, 6, none⟩ (.slice A6 body.length c6)).heap.size := by simpa using hsz2
  generalize w2.setCell ⟨b, 6, none⟩ (.slice A6 body.length c6) = w3 at *
  clear HS2 HB2 R6 hkeep2 c80 c81 c85 c86 c87 z85 z86 z87 hb0 hf0 x0 x1
  have c80 : w3.cell? ⟨b, 0, none⟩ = some (.int .i64 t.f0) := (blk_cell HB3.out 0).trans rfl
  have c81 : w3.cell? ⟨b, 1, none⟩ = some (.int .i64 t.f1) := (blk_cell HB3.out 1).trans rfl
  have hb0 : w3.cell? ⟨g, 0, none⟩ = some (.slice (some ⟨bb, oo, ss⟩) (r2.length + 1) c2) := (HS3.out.cell 0).trans rfl
  have hf0 := HS3.out.frozen 0
  obtain ⟨bb', oo', ss', hee, x0, x1, _, _, _⟩ := head_T28 (t := t1) (r := r2) (by rw [List.length_cons]; exact HC2.out)
  cases hee
  replace x0 := HS3.out.old x0
  replace x1 := HS3.out.old x1
  replace H := Aside0.mk (show (if t1.f0 = 7 then (if t.f0 = 2 then (match plist k r2 n1 (d + 1) [] with | none => none | some (.error e) => some (.error e) | some (.ok (els, r3, n3)) => some (endB t true body els r3 n3)) else some (.error (t1.f1, 13))) else some (endB t false body [] (t1 :: r2) n1)) = some res from H.out)
  go_cut [] (fun wc => BkRel w0 wn w g b t d res wc)
  case first =>
    by_cases h7 : t1.f0 = 7
    case neg =>
      have H2 := H.out; clear H
      rw [if_neg h7] at H2
      have h7' : (t1.f0 == 7) = false := by simp [h7]
      clear h7
      go_wp2
      go_meet
      case rel => exact ⟨false, body, [], t1 :: r2, n1, _, _, (Option.some.inj H2).symm, ⟨_, c2, HS3.out, by rw [List.length_cons]; exact HC2.out, by rw [List.length_cons]; exact hc2⟩, HB3.out, R63.out, Kd.R_nil _ _ _ _ _, hkeep3.out⟩
    have h7' : (t1.f0 == 7) = true := by simp [h7]
    have H2 := H.out; clear H
    rw [if_pos h7] at H2
    clear h7
    by_cases h2 : t.f0 = 2
    case neg =>
      rw [if_neg h2] at H2
      cases H2
      have h2' : (t.f0 == 2) = false := by simp [h2]
      clear h2
      go_wp2
      go_region_dies
      all_goals
        go_wp2_with (go_at_call 33; (with_reducible refine (must_no _ _ _).mono ?_); rintro e w' ⟨rfl, rfl⟩)
        exact ⟨rfl, rfl, by repeat (first | exact HS3.out.bel | apply below_alloc | apply pw_below_drewN | apply below_drew1)⟩
    rw [if_pos h2] at H2
    have h2' : (t.f0 == 2) = true := by simp [h2]
    clear h2
    cases hp2 : plist k r2 n1 (d + 1) [] with
    | none => rw [hp2] at H2; cases H2
    | some res2 =>
    rw [hp2] at H2
    replace H2 := Aside0.mk H2
    have hp2 := Aside0.mk hp2
    go_upto_region 3 with fail
    go_cut [] (fun wc => wc = w3.drew)
    case first =>
      go_region_with (go_at_call 33; (with_reducible refine (must_ok _ _ _).mono ?_); rintro e w' ⟨rfl, rfl⟩)
      all_goals
        go_wp2
        go_meet
        case rel => rfl
    case rest =>
      subst hcut
      have HS4 := Aside0.mk (HS3.out.drew)
      have HB4 := Aside0.mk (show w3.drew.heap[b]? = _ from HB3.out)
      have R64 := Aside0.mk (Kd.R_drew R63.out)
      have hkeep4 := Aside0.mk (show ∀ k o, w.heap[k]? = some o → k ≠ g → k ≠ b → w3.drew.heap[k]? = some o from hkeep3.out)
      replace hb0 : w3.drew.cell? _ = _ := hb0
      replace hf0 : w3.drew.frozen? _ = _ := hf0
      have hsz4 : w.heap.size ≤ w3.drew.heap.size := hsz3
      clear HS3 HB3 R63 hkeep3 c80 c81 x0 x1 hsz3
      generalize w3.drew = w4 at *
      have HS5 := Aside0.mk ((HS4.out.set 0 (.slice (cutT (some ⟨bb, oo, ss⟩) c2) r2.length (c2 - 1))).cast (cs' := stP (cutT (some ⟨bb, oo, ss⟩) c2) (c2 - 1) r2 n1 (d + 1)) rfl)
      have HB5 := Aside0.mk (show (w4.setCell ⟨g, 0, none⟩ (.slice (cutT (some ⟨bb, oo, ss⟩) c2) r2.length (c2 - 1))).heap[b]? = _ from blk_far' HB4.out hbg _)
      have R65 := Aside0.mk (show Kd.R k78 78 (w4.setCell ⟨g, 0, none⟩ (.slice (cutT (some ⟨bb, oo, ss⟩) c2) r2.length (c2 - 1))) w.heap.size (fun _ => True) (.slice A6 body.length c6) body from R_farB R64.out hgw _)
      have hkeep5 := Aside0.mk (show ∀ k o, w.heap[k]? = some o → k ≠ g → k ≠ b → (w4.setCell ⟨g, 0, none⟩ (.slice (cutT (some ⟨bb, oo, ss⟩) c2) r2.length (c2 - 1))).heap[k]? = some o from fun k o ho hkg hkb => by
        have h2 := hkeep4.out k o ho hkg hkb
        rw [← h2]; simp only [World.setCell, Array.getElem?_modify]; rw [if_neg (Ne.symm hkg)])
      have hsz5 : w.heap.size ≤ (w4.setCell ⟨g, 0, none⟩ (.slice (cutT (some ⟨bb, oo, ss⟩) c2) r2.length (c2 - 1))).heap.size := by simpa using hsz4
      go_wp2_with fail
      generalize w4.setCell ⟨g, 0, none⟩ (.slice (cutT (some ⟨bb, oo, ss⟩) c2) r2.length (c2 - 1)) = w5 at *
      clear HS4 HB4 R64 hkeep4 hb0 hf0 hsz4
      have hc4 : r2.length ≤ c2 - 1 := by omega
      refine (HL.out g r2 n1 (d + 1) res2 w0 w5 ⟨_, _, HS5.out.again, hCt.out, hc4⟩ hp2.out).mono ?_
      clear hw1
      cases res2 with
      | error e =>
        obtain ⟨at_, er⟩ := e
        have H3 := H2.out
        cases H3
        rintro e w6 ⟨rfl, hbe⟩
        go_wp2
        exact ⟨rfl, rfl, hbe⟩
      | ok q =>
      obtain ⟨els, r3, n3⟩ := q
      rintro e w6 ⟨⟨v7, rfl, R7⟩, A7', c7', S6, HC6, hc6⟩
      have H3 := Aside0.mk (Option.some.inj H2.out)
      replace R7 := Kd.R_lower R7 hsz5
      have HB6 := S6.other HB5.out hbg
      have R66 := Aside0.mk (R_keepBut R65.out S6.keep hgw)
      have hkeep6 := Aside0.mk (show ∀ k o, w.heap[k]? = some o → k ≠ g → k ≠ b → w6.heap[k]? = some o from fun k o ho hkg hkb => S6.other (hkeep5.out k o ho hkg hkb) hkg)
      have HS6 := Aside0.mk (HS5.out.call S6)
      obtain ⟨A7, c7, rfl⟩ := Kd.R_slice R7
      clear S6 HS5 HB5 R65 hkeep5 H2
      have c85 : w6.cell? ⟨b, 5, none⟩ = some (.bool false) := (blk_cell HB6 5).trans rfl
      have c87 : w6.cell? ⟨b, 7, none⟩ = some (.slice none 0 0) := (blk_cell HB6 7).trans rfl
      have z85 := blk_frozen HB6 5
      have z87 := blk_frozen HB6 7
      replace HB6 := Aside0.mk HB6
      replace R7 := Aside0.mk R7
      replace HC6 := Aside0.mk HC6
      go_wp2
      go_meet
      case rel =>
        exact ⟨true, body, els, r3, n3, .slice A6 body.length c6, .slice A7 els.length c7, H3.out.symm, ⟨_, _, (HS6.out.far' (j := 5) hb hgb _).far' (j := 7) hb hgb _, HC6.out, hc6⟩, blk_set (blk_set HB6.out 5 _) 7 _, R_farB (R_farB R66.out hbw _) hbw _, R_farB (R_farB R7.out hbw _) hbw _, fun k o ho hkg hkb => by
          have h2 := hkeep6.out k o ho hkg hkb
          rw [← h2]; simp only [World.setCell, Array.getElem?_modify]; rw [if_neg (Ne.symm hkb), if_neg (Ne.symm hkb)]⟩
  case rest =>
    obtain ⟨hh, body', els, r, n, v6, v7, he, ⟨A8, c8, HS8, HC8, hc8⟩, HB8, R68, R78, hkeep8⟩ := hcut
    clear HS3 HB3 R63 hkeep3 c80 c81 hb0 hf0 x0 x1 hCt hw1 H hx1 hb1l hbb hlen hlen' hm hc2 HC2
    have c81 : wc.cell? ⟨b, 1, none⟩ = some (.int .i64 t.f1) := (blk_cell HB8 1).trans rfl
    have hb0 : wc.cell? ⟨g, 0, none⟩ = some (.slice A8 r.length c8) := (HS8.cell 0).trans rfl
    have hb2 : wc.cell? ⟨g, 2, none⟩ = some (.int .i64 (d + 1)) := (HS8.cell 2).trans rfl
    have hf0 := HS8.frozen 0
    have hf2 := HS8.frozen 2
    replace HS8 := Aside0.mk HS8
    replace HB8 := Aside0.mk HB8
    replace R68 := Aside0.mk R68
    replace R78 := Aside0.mk R78
    replace hkeep8 := Aside0.mk hkeep8
    cases r with
    | nil =>
      obtain rfl : res = .error (t.f1, 7) := he
      rw [show ([] : List S76).length = 0 from rfl] at hb0
      go_wp2
      go_region_dies
      all_goals
        go_wp2_with (go_at_call 33; (with_reducible refine (must_no _ _ _).mono ?_); rintro e w' ⟨rfl, rfl⟩)
        exact ⟨rfl, rfl, by repeat (first | exact HS8.out.bel | apply below_alloc | apply pw_below_drewN | apply below_drew1)⟩
    | cons t3 r4 =>
    obtain ⟨b3, o3, s3, rfl, x0, x1, _, _, _⟩ := head_T28 HC8
    rw [List.length_cons] at hb0 hc8 HC8
    have hCt := Aside0.mk (cutT_C (by rw [List.length_cons]; exact HC8) (by rw [List.length_cons]; exact hc8) : Kd.C k76 w0 (cutT (some ⟨b3, o3, s3⟩) c8) r4.length r4)
    have hw1 := cutT1 (some ⟨b3, o3, s3⟩) (r4.length + 1) c8 (by omega)
    simp only [Nat.add_sub_cancel] at hw1
    have hm := Kd.C_max HC8
    replace x0 := HS8.out.old x0
    replace x1 := HS8.out.old x1
    have hlen : (0 : Int) < ((r4.length + 1 : Nat) : Int) := by omega
    have hlen' : 0 < r4.length + 1 := by omega
    have hc9 : r4.length ≤ c8 - 1 := by omega
    clear HC8 hc8
    go_upto_region 6 with fail
    go_cut [] (fun wd => wd = wc.drew)
    case first =>
      go_region_with (go_at_call 33; (with_reducible refine (must_ok _ _ _).mono ?_); rintro e w' ⟨rfl, rfl⟩)
      all_goals
        go_wp2
        go_meet
        case rel => rfl
    case rest =>
      subst hcut
      replace HS8 := Aside0.mk (HS8.out.drew)
      replace HB8 := Aside0.mk (show wc.drew.heap[b]? = _ from HB8.out)
      replace R68 := Aside0.mk (Kd.R_drew R68.out)
      replace R78 := Aside0.mk (Kd.R_drew R78.out)
      replace hkeep8 := Aside0.mk (show ∀ k o, w.heap[k]? = some o → k ≠ g → k ≠ b → wc.drew.heap[k]? = some o from hkeep8.out)
      replace hb0 : wc.drew.cell? _ = _ := hb0
      replace hb2 : wc.drew.cell? _ = _ := hb2
      replace hf0 : wc.drew.frozen? _ = _ := hf0
      replace hf2 : wc.drew.frozen? _ = _ := hf2
      replace x0 : wc.drew.cell? _ = _ := x0
      replace x1 : wc.drew.cell? _ = _ := x1
      clear c81
      generalize wc.drew = wd at *
      by_cases h8 : t3.f0 = 8
      case neg =>
        obtain rfl : res = .error (t3.f1, 13) := by rw [he]; exact if_neg h8
        have h8' : (t3.f0 == 8) = false := by simp [h8]
        clear h8 he
        go_wp2
        go_region_dies
        all_goals
          go_wp2_with (go_at_call 33; (with_reducible refine (must_no _ _ _).mono ?_); rintro e w' ⟨rfl, rfl⟩)
          exact ⟨rfl, rfl, by repeat (first | exact HS8.out.bel | apply below_alloc | apply pw_below_drewN | apply below_drew1)⟩
      obtain rfl : res = .ok (⟨t.f0, t.f1, t.f2, t.f3, t.f4, hh, body', els⟩, r4, n) := by rw [he]; exact if_pos h8
      have h8' : (t3.f0 == 8) = true := by simp [h8]
      clear h8 he
      go_upto_region 7 with fail
      go_cut [] (fun we => we = wd.drew)
      case first =>
        go_region_with (go_at_call 33; (with_reducible refine (must_ok _ _ _).mono ?_); rintro e w' ⟨rfl, rfl⟩)
        all_goals
          go_wp2
          go_meet
          case rel => rfl
      case rest =>
        subst hcut
        replace HS8 := Aside0.mk (HS8.out.drew)
        replace HB8 := Aside0.mk (show wd.drew.heap[b]? = _ from HB8.out)
        replace R68 := Aside0.mk (Kd.R_drew R68.out)
        replace R78 := Aside0.mk (Kd.R_drew R78.out)
        replace hkeep8 := Aside0.mk (show ∀ k o, w.heap[k]? = some o → k ≠ g → k ≠ b → wd.drew.heap[k]? = some o from hkeep8.out)
        replace hb0 : wd.drew.cell? _ = _ := hb0
        replace hb2 : wd.drew.cell? _ = _ := hb2
        replace hf0 : wd.drew.frozen? _ = _ := hf0
        replace hf2 : wd.drew.frozen? _ = _ := hf2
        clear x0 x1
        generalize wd.drew = we at *
        have hd1 : IntKind.i64.wrap (d + 1 - 1) = d := by rw [IntKind.wrap_i64]; have := hd.out; omega
        have hd2 : IntKind.i64.wrap d = d := by rw [IntKind.wrap_i64]; have := hd.out; omega
        go_wp2
        go_end0
        exact ⟨rfl, ⟨_, _, ((HS8.out.set 0 (.slice (cutT (some ⟨b3, o3, s3⟩) c8) r4.length (c8 - 1))).set 2 (.int .i64 d)).cast (cs' := stP (cutT (some ⟨b3, o3, s3⟩) c8) (c8 - 1) r4 n d) rfl, hCt.out, hc9⟩, ⟨v6, v7, blk_far' (blk_far' HB8.out hbg _) hbg _, R_farB (R_farB R68.out hgw _) hgw _, R_farB (R_farB R78.out hgw _) hgw _⟩, fun k o ho hkg hkb => by
          have h2 := hkeep8.out k o ho hkg hkb
          rw [← h2]; simp only [World.setCell, Array.getElem?_modify]; rw [if_neg (Ne.symm hkg), if_neg (Ne.symm hkg)]⟩
end Go.Proofs.YtkpnfejfbmandaaDoor.Px
namespace Go.Proofs.YtkpnfejfbmandaaDoor.Px
open Go.RowKit Go.Proofs.YtkpnfejfbmandaaDoorW.PrintWords Go.Proofs.YtkpnfejfbmandaaDoorW.PrintLast Go.Proofs.YtkpnfejfbmandaaDoorW.PrintMore
set_option linter.unusedVariables false
set_option linter.unusedSimpArgs false
set_option maxHeartbeats 1000000 in
set_option maxRecDepth 100000 in
theorem pnode.deep (g : Nat) (t : S76) (r : List S76) (n d : Int) (w0 w : World) (hS : PSt w0 w g (t :: r) n d w) (hk : t.f0 ≠ 6) (hb : opK t.f0) (hd : 32 ≤ d) :
    Calls Tryd.prog 55 #[.pointer (some ⟨g, 0, none⟩)] w fun e w' => e = boom t.f1 13 ∧ Below w0.heap.size w0 w' := by
  obtain ⟨A, c, HS, HC, hc⟩ := hS
  obtain ⟨bb, oo, ss, rfl, x0, x1, x2, x3, x4⟩ := head_T28 HC
  rw [List.length_cons] at hc HC
  have hb0 : w.cell? ⟨g, 0, none⟩ = some (.slice (some ⟨bb, oo, ss⟩) (r.length + 1) c) := (HS.cell 0).trans rfl
  have hb2 : w.cell? ⟨g, 2, none⟩ = some (.int .i64 d) := (HS.cell 2).trans rfl
  have hgw : g < w.heap.size := HS.lt
  have hm := Kd.C_max HC
  replace x0 := HS.old x0
  replace x1 := HS.old x1
  replace x2 := HS.old x2
  replace x3 := HS.old x3
  replace x4 := HS.old x4
  have hads := World.block_lt_of_cell? _ _ x1
  replace HS := Aside0.mk HS
  clear HC
  have hlen : (0 : Int) < ((r.length + 1 : Nat) : Int) := by omega
  have hlen' : 0 < r.length + 1 := by omega
  have h6' : (t.f0 != 6) = true := by simp [hk]
  have hbv : opB t.f0 = true := (opB_iff _).2 hb
  have hd' : decide (d < 32) = false := decide_eq_false (by omega)
  clear hk hb
  go_enter Tryd.func55, Tryd.ntmps55
  go_wp2
  go_quiet (first | (go_at_call 33; refine (must_ok _ _ _).mono ?_; rintro e w' ⟨rfl, rfl⟩; exact ⟨rfl, _, rfl⟩))
  go_wp2
  refine wp_region_still_tail 13 (by kernel_rfl) (by kernel_rfl) ?_
  simp only [List.take_succ_cons, List.take_zero, List.drop_succ_cons, List.drop_zero]
  change wpStill _ _ (World.drew _) (fun a' => wpList _ _ _ _ a' (World.drew _)) _ _
  repeat (refine wpStill_step (fun K hK => ?_); go_simp; first | (refine ⟨_, (opens_any _ _).mono (fun e w' h => ⟨h.1, h.2.symm⟩), hK _ ?_⟩; clear hK K) | (refine hK _ ?_; clear hK K))
  refine wpStill_nil ?_
  go_wp2_with (go_at_call 33; (with_reducible refine (must_no _ _ _).mono ?_); rintro e w' ⟨rfl, rfl⟩)
  exact ⟨rfl, rfl, by repeat (first | exact HS.out.bel | apply below_alloc | apply pw_below_drewN | apply below_drew1)⟩
set_option maxHeartbeats 1000000 in
set_option maxRecDepth 100000 in
theorem pnode.leaf (g : Nat) (t : S76) (r : List S76) (n d : Int) (w0 w : World) (hS : PSt w0 w g (t :: r) n d w) (hb : ¬ opK t.f0) (hn0 : 0 ≤ n) (hn : n < 4096) :
    Calls Tryd.prog 55 #[.pointer (some ⟨g, 0, none⟩)] w fun e w' => e = .returned (.agg #[.int .i64 t.f0, .int .i64 t.f1, .string t.f2, .string t.f3, .bool t.f4, .bool false, .slice none 0 0, .slice none 0 0]) ∧ PSt w0 w g r (n + 1) d w' := by
  obtain ⟨A, c, HS, HC, hc⟩ := hS
  obtain ⟨bb, oo, ss, rfl, x0, x1, x2, x3, x4⟩ := head_T28 HC
  rw [List.length_cons] at hc HC
  have hCt := Aside0.mk (cutT_C (by rw [List.length_cons]; exact HC) (by rw [List.length_cons]; exact hc) : Kd.C k76 w0 (cutT (some ⟨bb, oo, ss⟩) c) r.length r)
  have hw1 := cutT1 (some ⟨bb, oo, ss⟩) (r.length + 1) c (by omega)
  simp only [Nat.add_sub_cancel] at hw1
  have hb0 : w.cell? ⟨g, 0, none⟩ = some (.slice (some ⟨bb, oo, ss⟩) (r.length + 1) c) := (HS.cell 0).trans rfl
  have hb1 : w.cell? ⟨g, 1, none⟩ = some (.int .i64 n) := (HS.cell 1).trans rfl
  have hf0 := HS.frozen 0
  have hf1 := HS.frozen 1
  have hgw : g < w.heap.size := HS.lt
  have hm := Kd.C_max HC
  replace x0 := HS.old x0
  replace x1 := HS.old x1
  replace x2 := HS.old x2
  replace x3 := HS.old x3
  replace x4 := HS.old x4
  have hads := World.block_lt_of_cell? _ _ x1
  replace HS := Aside0.mk HS
  clear HC
  have hlen : (0 : Int) < ((r.length + 1 : Nat) : Int) := by omega
  have hlen' : 0 < r.length + 1 := by omega
  have hbv : opB t.f0 = false := by rw [← Bool.not_eq_true, opB_iff]; exact hb
  have h6' : (t.f0 != 6) = true := by rw [bne_iff_ne]; exact fun e => hb (.inr (.inr e))
  have hn1 : decide (n < 4096) = true := decide_eq_true hn
  have hnw : IntKind.i64.wrap (n + 1) = n + 1 := by rw [IntKind.wrap_i64]; omega
  have hc1 := Aside0.mk (show r.length ≤ c - 1 by omega)
  clear hb hn hn0
  go_enter Tryd.func55, Tryd.ntmps55
  go_wp2
  go_quiet (first | (go_at_call 33; refine (must_ok _ _ _).mono ?_; rintro e w' ⟨rfl, rfl⟩; exact ⟨rfl, _, rfl⟩))
  go_wp2
  refine wp_region_still_tail 13 (by kernel_rfl) (by kernel_rfl) ?_
  simp only [List.take_succ_cons, List.take_zero, List.drop_succ_cons, List.drop_zero]
  change wpStill _ _ (World.drew _) (fun a' => wpList _ _ _ _ a' (World.drew _)) _ _
  repeat (refine wpStill_step (fun K hK => ?_); go_simp; first | (refine ⟨_, (opens_any _ _).mono (fun e w' h => ⟨h.1, h.2.symm⟩), hK _ ?_⟩; clear hK K) | (refine hK _ ?_; clear hK K))
  refine wpStill_nil ?_
  go_wp2_with (go_at_call 33; (with_reducible refine (must_ok _ _ _).mono ?_); rintro e w' ⟨rfl, rfl⟩)
  refine wp_region_still_tail 7 (by kernel_rfl) (by kernel_rfl) ?_
  simp only [List.take_succ_cons, List.take_zero, List.drop_succ_cons, List.drop_zero]
  change wpStill _ _ (World.drew _) (fun a' => wpList _ _ _ _ a' (World.drew _)) _ _
  repeat (refine wpStill_step (fun K hK => ?_); go_simp; first | (refine ⟨_, (opens_any _ _).mono (fun e w' h => ⟨h.1, h.2.symm⟩), hK _ ?_⟩; clear hK K) | (refine hK _ ?_; clear hK K))
  refine wpStill_nil ?_
  go_wp2_with (first | (go_at_call 33; (with_reducible refine (must_ok _ _ _).mono ?_); rintro e w' ⟨rfl, rfl⟩) | (go_at_call 78; refine (opens_any _ _).mono ?_; rintro e w' ⟨rfl, rfl⟩))
  refine bodyPost_ret (results_cell_row rfl _ _ w.heap.size 78 #[.int .i64 t.f0, .int .i64 t.f1, .string t.f2, .string t.f3, .bool t.f4, .bool false, .slice none 0 0, .slice none 0 0] (0, 0) _ rfl ?_ Tryd.underlying78 rfl (by kernel_rfl)) rfl ?_
  · refine blk_alloc ?_ _
    refine blk_set8 (cs := #[.int .i64 0, .int .i64 0, .string ⟨#[]⟩, .string ⟨#[]⟩, .bool false, .bool false, .slice none 0 0, .slice none 0 0]) ?_ rfl _ _ _ _ _ _ _ _
    refine blk_far' ?_ (Nat.ne_of_gt hgw) _
    refine blk_far' ?_ (Nat.ne_of_gt hgw) _
    refine blk_drewN ?_ _
    refine blk_alloc ?_ _
    exact blk_new _ _
  · refine ⟨rfl, cutT (some ⟨bb, oo, ss⟩) c, c - 1, ?_, hCt.out, hc1.out⟩
    have h1 := ((HS.out.alloc (.cells #[.int .i64 0, .int .i64 0, .string ⟨#[]⟩, .string ⟨#[]⟩, .bool false, .bool false, .slice none 0 0, .slice none 0 0] 78)).alloc (.cells #[.int .i64 t.f0, .int .i64 t.f1, .string t.f2, .string t.f3, .bool t.f4] 76)).drewN (nq + 1 + 1)
    have h2 := ((h1.set 1 (.int .i64 (n + 1))).set 0 (.slice (cutT (some ⟨bb, oo, ss⟩) c) r.length (c - 1))).cast (cs' := stP (cutT (some ⟨bb, oo, ss⟩) c) (c - 1) r (n + 1) d) rfl
    have hle := Nat.le_refl w.heap.size
    have hne := Nat.ne_of_lt hgw
    refine Stp.alloc ?_ _
    exact (((((((h2.far' hle hne _).far' hle hne _).far' hle hne _).far' hle hne _).far' hle hne _).far' hle hne _).far' hle hne _).far' hle hne _
set_option maxHeartbeats 1000000 in
set_option maxRecDepth 100000 in
theorem pnode.blk (k : Nat) (HBk : pblk.Con k) (g : Nat) (t : S76) (r : List S76) (n d : Int) (res : PA S78) (w0 w : World) (hS : PSt w0 w g (t :: r) n d w) (hb : opK t.f0) (h6 : t.f0 = 6 → d = 0) (hd0 : 0 ≤ d) (hd : d < 32) (hn0 : 0 ≤ n) (hn : n < 4096) (h : pblk k t r (n + 1) d = some res) :
    Calls Tryd.prog 55 #[.pointer (some ⟨g, 0, none⟩)] w fun e w' => PPost w0 w g d (fun e x w' => ∃ v6 v7 : Value, e = .returned (.agg #[.int .i64 x.f0, .int .i64 x.f1, .string x.f2, .string x.f3, .bool x.f4, .bool x.f5, v6, v7]) ∧ Kd.R k78 78 w' w.heap.size (fun _ => True) v6 x.f6 ∧ Kd.R k78 78 w' w.heap.size (fun _ => True) v7 x.f7) res e w' := by
  replace HBk := Aside0.mk HBk
  replace h := Aside0.mk h
  obtain ⟨A, c, HS, HC, hc⟩ := hS
  obtain ⟨bb, oo, ss, rfl, x0, x1, x2, x3, x4⟩ := head_T28 HC
  rw [List.length_cons] at hc HC
  have hCt := Aside0.mk (cutT_C (by rw [List.length_cons]; exact HC) (by rw [List.length_cons]; exact hc) : Kd.C k76 w0 (cutT (some ⟨bb, oo, ss⟩) c) r.length r)
  have hw1 := cutT1 (some ⟨bb, oo, ss⟩) (r.length + 1) c (by omega)
  simp only [Nat.add_sub_cancel] at hw1
  have hb0 : w.cell? ⟨g, 0, none⟩ = some (.slice (some ⟨bb, oo, ss⟩) (r.length + 1) c) := (HS.cell 0).trans rfl
  have hb2 : w.cell? ⟨g, 2, none⟩ = some (.int .i64 d) := (HS.cell 2).trans rfl
  have hb1 : w.cell? ⟨g, 1, none⟩ = some (.int .i64 n) := (HS.cell 1).trans rfl
  have hf0 := HS.frozen 0
  have hf1 := HS.frozen 1
  have hgw : g < w.heap.size := HS.lt
  have hm := Kd.C_max HC
  replace x0 := HS.old x0
  replace x1 := HS.old x1
  replace x2 := HS.old x2
  replace x3 := HS.old x3
  replace x4 := HS.old x4
  have hads := World.block_lt_of_cell? _ _ x1
  replace HS := Aside0.mk HS
  clear HC
  have hlen : (0 : Int) < ((r.length + 1 : Nat) : Int) := by omega
  have hlen' : 0 < r.length + 1 := by omega
  have hbv : opB t.f0 = true := (opB_iff _).2 hb
  have hdl : decide (d < 32) = true := decide_eq_true hd
  have hd1 := Aside0.mk (show 0 ≤ d ∧ d ≤ 100000 by omega)
  have h4 : ((t.f0 != 6) = true ∧ True) ∨ ((t.f0 != 6) = false ∧ (d == 0) = true) := by
    by_cases e6 : t.f0 = 6
    · exact .inr ⟨by simp [e6], by simp [h6 e6]⟩
    · exact .inl ⟨by simp [e6], trivial⟩
  have hn1 : decide (n < 4096) = true := decide_eq_true hn
  have hnw : IntKind.i64.wrap (n + 1) = n + 1 := by rw [IntKind.wrap_i64]; omega
  have hc1 := Aside0.mk (show r.length ≤ c - 1 by omega)
  clear hb hn hn0 h6 hd hd0
  rcases h4 with ⟨h6', h0'⟩ | ⟨h6', h0'⟩
  all_goals
    go_enter Tryd.func55, Tryd.ntmps55
    go_wp2
    go_quiet (first | (go_at_call 33; refine (must_ok _ _ _).mono ?_; rintro e w' ⟨rfl, rfl⟩; exact ⟨rfl, _, rfl⟩))
    go_wp2
    refine wp_region_still_tail 13 (by kernel_rfl) (by kernel_rfl) ?_
    simp only [List.take_succ_cons, List.take_zero, List.drop_succ_cons, List.drop_zero]
    change wpStill _ _ (World.drew _) (fun a' => wpList _ _ _ _ a' (World.drew _)) _ _
    repeat (refine wpStill_step (fun K hK => ?_); go_simp; first | (refine ⟨_, (opens_any _ _).mono (fun e w' h => ⟨h.1, h.2.symm⟩), hK _ ?_⟩; clear hK K) | (refine hK _ ?_; clear hK K))
    refine wpStill_nil ?_
    go_wp2_with (go_at_call 33; (with_reducible refine (must_ok _ _ _).mono ?_); rintro e w' ⟨rfl, rfl⟩)
    refine wp_region_still_tail 7 (by kernel_rfl) (by kernel_rfl) ?_
    simp only [List.take_succ_cons, List.take_zero, List.drop_succ_cons, List.drop_zero]
    change wpStill _ _ (World.drew _) (fun a' => wpList _ _ _ _ a' (World.drew _)) _ _
    repeat (refine wpStill_step (fun K hK => ?_); go_simp; first | (refine ⟨_, (opens_any _ _).mono (fun e w' h => ⟨h.1, h.2.symm⟩), hK _ ?_⟩; clear hK K) | (refine hK _ ?_; clear hK K))
    refine wpStill_nil ?_
    go_wp2_with (first | (go_at_call 33; (with_reducible refine (must_ok _ _ _).mono ?_); rintro e w' ⟨rfl, rfl⟩) | (go_at_call 78; refine (opens_any _ _).mono ?_; rintro e w' ⟨rfl, rfl⟩) | fail)
    clear x0 x1 x2 x3 x4 hb0 hb1 hb2 hf0 hf1 hw1 hlen hlen' hm hads hn1 hnw hdl hbv
    have hle := Nat.le_refl w.heap.size
    have hne := Nat.ne_of_lt hgw
    have hret0 : ((((((w.alloc (.cells #[.int .i64 0, .int .i64 0, .string ⟨#[]⟩, .string ⟨#[]⟩, .bool false, .bool false, .slice none 0 0, .slice none 0 0] 78)).alloc (.cells #[.int .i64 t.f0, .int .i64 t.f1, .string t.f2, .string t.f3, .bool t.f4] 76)).drewN (nq + 1 + 1)).setCell ⟨g, 1, none⟩ (.int .i64 (n + 1))).setCell ⟨g, 0, none⟩ (.slice (cutT (some ⟨bb, oo, ss⟩) c) r.length (c - 1))).alloc (.cells #[.int .i64 t.f0, .int .i64 t.f1, .string t.f2, .string t.f3, .bool t.f4, .bool false, .slice none 0 0, .slice none 0 0] 78)).heap[w.heap.size]? = some (.cells #[.int .i64 0, .int .i64 0, .string ⟨#[]⟩, .string ⟨#[]⟩, .bool false, .bool false, .slice none 0 0, .slice none 0 0] 78 (0, 0)) := by
      refine blk_alloc ?_ _
      refine blk_far' ?_ (Nat.ne_of_gt hgw) _
      refine blk_far' ?_ (Nat.ne_of_gt hgw) _
      refine blk_drewN ?_ _
      refine blk_alloc ?_ _
      exact blk_new _ _
    replace hret0 := Aside0.mk hret0
    refine (HBk.out g (w.heap.size + 1 + 1) t r (n + 1) d res w0 w _ ?_ ?_ (by omega) (by omega) hgw hd1.out h.out).mono ?_
    · refine ⟨cutT (some ⟨bb, oo, ss⟩) c, c - 1, Stp.alloc ?_ _, hCt.out, hc1.out⟩
      have h1 := ((HS.out.alloc (.cells #[.int .i64 0, .int .i64 0, .string ⟨#[]⟩, .string ⟨#[]⟩, .bool false, .bool false, .slice none 0 0, .slice none 0 0] 78)).alloc (.cells #[.int .i64 t.f0, .int .i64 t.f1, .string t.f2, .string t.f3, .bool t.f4] 76)).drewN (nq + 1 + 1)
      exact ((h1.set 1 (.int .i64 (n + 1))).set 0 (.slice (cutT (some ⟨bb, oo, ss⟩) c) r.length (c - 1))).cast (cs' := stP (cutT (some ⟨bb, oo, ss⟩) c) (c - 1) r (n + 1) d) rfl
    · exact blk_new' (by simp)
    intro e w2 hP
    cases res with
    | error e1 =>
      obtain ⟨at_, er⟩ := e1
      obtain ⟨rfl, hbe⟩ := hP
      clear hret0
      go_wp2
      exact ⟨rfl, rfl, hbe⟩
    | ok q =>
      obtain ⟨x, l2, n2⟩ := q
      obtain ⟨rfl, HS2, ⟨v6, v7, HB, R6, R7⟩, hkeep⟩ := hP
      have HR := hkeep _ _ hret0.out (Nat.ne_of_gt hgw) (by omega)
      clear hkeep hret0
      obtain ⟨A6, c6, rfl⟩ := Kd.R_slice R6
      obtain ⟨A7, c7, rfl⟩ := Kd.R_slice R7
      have hlt2 : w.heap.size < ((((((w.alloc (.cells #[.int .i64 0, .int .i64 0, .string ⟨#[]⟩, .string ⟨#[]⟩, .bool false, .bool false, .slice none 0 0, .slice none 0 0] 78)).alloc (.cells #[.int .i64 t.f0, .int .i64 t.f1, .string t.f2, .string t.f3, .bool t.f4] 76)).drewN (nq + 1 + 1)).setCell ⟨g, 1, none⟩ (.int .i64 (n + 1))).setCell ⟨g, 0, none⟩ (.slice (cutT (some ⟨bb, oo, ss⟩) c) r.length (c - 1))).alloc (.cells #[.int .i64 t.f0, .int .i64 t.f1, .string t.f2, .string t.f3, .bool t.f4, .bool false, .slice none 0 0, .slice none 0 0] 78)).heap.size := by simp; omega
      have R6' := Aside0.mk (Kd.R_lower (R_farB (R_farB (R_farB (R_farB (R_farB (R_farB (R_farB (R_farB R6 (j := 0) hlt2 (.int .i64 x.f0)) (j := 1) hlt2 (.int .i64 x.f1)) (j := 2) hlt2 (.string x.f2)) (j := 3) hlt2 (.string x.f3)) (j := 4) hlt2 (.bool x.f4)) (j := 5) hlt2 (.bool x.f5)) (j := 6) hlt2 (.slice A6 x.f6.length c6)) (j := 7) hlt2 (.slice A7 x.f7.length c7)) (Nat.le_of_lt hlt2))
      have R7' := Aside0.mk (Kd.R_lower (R_farB (R_farB (R_farB (R_farB (R_farB (R_farB (R_farB (R_farB R7 (j := 0) hlt2 (.int .i64 x.f0)) (j := 1) hlt2 (.int .i64 x.f1)) (j := 2) hlt2 (.string x.f2)) (j := 3) hlt2 (.string x.f3)) (j := 4) hlt2 (.bool x.f4)) (j := 5) hlt2 (.bool x.f5)) (j := 6) hlt2 (.slice A6 x.f6.length c6)) (j := 7) hlt2 (.slice A7 x.f7.length c7)) (Nat.le_of_lt hlt2))
      clear R6 R7 hlt2
      have c0 : w2.cell? ⟨w.heap.size + 1 + 1, 0, none⟩ = some (.int .i64 x.f0) := (blk_cell HB 0).trans rfl
      have c1 : w2.cell? ⟨w.heap.size + 1 + 1, 1, none⟩ = some (.int .i64 x.f1) := (blk_cell HB 1).trans rfl
      have c2 : w2.cell? ⟨w.heap.size + 1 + 1, 2, none⟩ = some (.string x.f2) := (blk_cell HB 2).trans rfl
      have c3 : w2.cell? ⟨w.heap.size + 1 + 1, 3, none⟩ = some (.string x.f3) := (blk_cell HB 3).trans rfl
      have c4 : w2.cell? ⟨w.heap.size + 1 + 1, 4, none⟩ = some (.bool x.f4) := (blk_cell HB 4).trans rfl
      have c5 : w2.cell? ⟨w.heap.size + 1 + 1, 5, none⟩ = some (.bool x.f5) := (blk_cell HB 5).trans rfl
      have c6' : w2.cell? ⟨w.heap.size + 1 + 1, 6, none⟩ = some (.slice A6 x.f6.length c6) := (blk_cell HB 6).trans rfl
      have c7' : w2.cell? ⟨w.heap.size + 1 + 1, 7, none⟩ = some (.slice A7 x.f7.length c7) := (blk_cell HB 7).trans rfl
      have y0 : w2.cell? ⟨w.heap.size, 0, none⟩ = some (.int .i64 0) := (blk_cell HR 0).trans rfl
      have y1 : w2.cell? ⟨w.heap.size, 1, none⟩ = some (.int .i64 0) := (blk_cell HR 1).trans rfl
      have y2 : w2.cell? ⟨w.heap.size, 2, none⟩ = some (.string ⟨#[]⟩) := (blk_cell HR 2).trans rfl
      have y3 : w2.cell? ⟨w.heap.size, 3, none⟩ = some (.string ⟨#[]⟩) := (blk_cell HR 3).trans rfl
      have y4 : w2.cell? ⟨w.heap.size, 4, none⟩ = some (.bool false) := (blk_cell HR 4).trans rfl
      have y5 : w2.cell? ⟨w.heap.size, 5, none⟩ = some (.bool false) := (blk_cell HR 5).trans rfl
      have y6 : w2.cell? ⟨w.heap.size, 6, none⟩ = some (.slice none 0 0) := (blk_cell HR 6).trans rfl
      have y7 : w2.cell? ⟨w.heap.size, 7, none⟩ = some (.slice none 0 0) := (blk_cell HR 7).trans rfl
      have z0 := blk_frozen HR 0
      have z1 := blk_frozen HR 1
      have z2 := blk_frozen HR 2
      have z3 := blk_frozen HR 3
      have z4 := blk_frozen HR 4
      have z5 := blk_frozen HR 5
      have z6 := blk_frozen HR 6
      have z7 := blk_frozen HR 7
      replace HR := Aside0.mk HR
      replace HS2 := Aside0.mk HS2
      clear HB HS
      go_wp2
      refine bodyPost_ret (results_cell_row rfl _ _ w.heap.size 78 #[.int .i64 x.f0, .int .i64 x.f1, .string x.f2, .string x.f3, .bool x.f4, .bool x.f5, .slice A6 x.f6.length c6, .slice A7 x.f7.length c7] (0, 0) _ rfl ?_ Tryd.underlying78 rfl (by kernel_rfl)) rfl ?_
      · exact blk_set8 HR.out rfl _ _ _ _ _ _ _ _
      · obtain ⟨A', c', S2, HC2, hc2⟩ := HS2.out
        exact ⟨⟨_, _, rfl, R6'.out, R7'.out⟩, A', c', (((((((S2.far' hle hne _).far' hle hne _).far' hle hne _).far' hle hne _).far' hle hne _).far' hle hne _).far' hle hne _).far' hle hne _, HC2, hc2⟩
set_option maxHeartbeats 4000000 in
set_option maxRecDepth 100000 in
theorem pnode.step (k : Nat) (ihb : ∀ m, m < k → pblk.Con m) : pnode.Con k := by
  intro g t r n d res w0 w hS h
  have hS0 := Aside0.mk hS
  obtain ⟨A, c, HS, HC, hc⟩ := hS
  have hgw : g < w.heap.size := HS.lt
  cases k with
  | zero => exact absurd h (by simp [pnode])
  | succ k =>
  have HBk := Aside0.mk (ihb k (by omega)); clear ihb
  rw [pnode_eq] at h
  by_cases hi : 0 ≤ n ∧ 0 ≤ d
  case neg => rw [if_neg hi] at h; cases h
  rw [if_pos hi] at h
  have H := Aside0.mk h; clear h
  obtain ⟨hn0, hd0⟩ := hi
  obtain ⟨bb, oo, ss, rfl, x0, x1, x2, x3, x4⟩ := head_T28 HC
  rw [List.length_cons] at hc HC
  have hCt := Aside0.mk (cutT_C (by rw [List.length_cons]; exact HC) (by rw [List.length_cons]; exact hc) : Kd.C k76 w0 (cutT (some ⟨bb, oo, ss⟩) c) r.length r)
  have hw1 := cutT1 (some ⟨bb, oo, ss⟩) (r.length + 1) c (by omega)
  simp only [Nat.add_sub_cancel] at hw1
  have hb0 : w.cell? ⟨g, 0, none⟩ = some (.slice (some ⟨bb, oo, ss⟩) (r.length + 1) c) := (HS.cell 0).trans rfl
  have hb1 : w.cell? ⟨g, 1, none⟩ = some (.int .i64 n) := (HS.cell 1).trans rfl
  have hb2 : w.cell? ⟨g, 2, none⟩ = some (.int .i64 d) := (HS.cell 2).trans rfl
  have hf0 := HS.frozen 0
  have hf1 := HS.frozen 1
  have hm := Kd.C_max HC
  replace x0 := HS.old x0
  replace x1 := HS.old x1
  replace x2 := HS.old x2
  replace x3 := HS.old x3
  replace x4 := HS.old x4
  have hads := World.block_lt_of_cell? _ _ x1
  replace HS := Aside0.mk HS
  clear HC
  have hlen : (0 : Int) < ((r.length + 1 : Nat) : Int) := by omega
  have hlen' : 0 < r.length + 1 := by omega
  by_cases h6 : t.f0 = 6 ∧ d > 0
  · have H2 := H.out; clear H
    rw [if_pos h6] at H2
    cases H2
    have h6' : (t.f0 != 6) = false := by simp [h6.1]
    have hd' : (d == 0) = false := by rw [beq_eq_false_iff_ne]; omega
    clear h6 hCt hw1
    go_enter Tryd.func55, Tryd.ntmps55
    go_wp2
    go_region_dies
    all_goals
      go_wp2_with (go_at_call 33; (with_reducible refine (must_no _ _ _).mono ?_); rintro e w' ⟨rfl, rfl⟩)
      exact ⟨rfl, rfl, by repeat (first | exact HS.out.bel | apply below_alloc | apply pw_below_drewN | apply below_drew1)⟩
  rw [if_neg h6] at H
  by_cases hbd : opK t.f0 ∧ d ≥ 32
  · have H2 := H.out; clear H
    rw [if_pos hbd] at H2
    cases H2
    exact pnode.deep g t r n d w0 w hS0.out (fun e => h6 ⟨e, by have := hbd.2; omega⟩) hbd.1 hbd.2
  rw [if_neg hbd] at H
  have h4 : ((t.f0 != 6) = false ∧ opB t.f0 = true ∧ (d == 0) = true ∧ d < 32) ∨ ((t.f0 != 6) = true ∧ ((opB t.f0 = true ∧ d < 32) ∨ opB t.f0 = false)) := by
    by_cases e6 : t.f0 = 6
    · have hd0 : ¬ d > 0 := fun hd => h6 ⟨e6, hd⟩
      exact .inl ⟨by simp [e6], (opB_iff _).2 (.inr (.inr e6)), by rw [beq_iff_eq]; omega, by omega⟩
    · refine .inr ⟨by simp [e6], ?_⟩
      by_cases eb : opK t.f0
      · refine .inl ⟨(opB_iff _).2 eb, ?_⟩
        rcases Int.lt_or_le d 32 with h | h
        · exact h
        · exact absurd ⟨eb, h⟩ hbd
      · refine .inr ?_
        rw [← Bool.not_eq_true, opB_iff]; exact eb
  have h6' := h6
  have hbd' := hbd
  clear h6 hbd
  by_cases hn : n ≥ 4096
  · have H2 := H.out; clear H
    rw [if_pos hn] at H2
    cases H2
    have hn' : decide (n < 4096) = false := decide_eq_false (by omega)
    clear hn hCt hw1 h6' hbd'
    rcases h4 with ⟨e6, eb, ed, ed2⟩ | ⟨e6, ⟨eb, ed2⟩ | eb⟩
    all_goals
      go_enter Tryd.func55, Tryd.ntmps55
      go_wp2
      go_quiet (first | (go_at_call 33; refine (must_ok _ _ _).mono ?_; rintro e w' ⟨rfl, rfl⟩; exact ⟨rfl, _, rfl⟩))
      go_wp2
      go_quiet (first | (go_at_call 78; refine (opens_any _ _).mono ?_; rintro e w' ⟨rfl, rfl⟩; exact ⟨rfl, _, rfl⟩) | (go_at_call 33; refine (must_ok _ _ _).mono ?_; rintro e w' ⟨rfl, rfl⟩; exact ⟨rfl, _, rfl⟩))
      go_wp2
      go_region_dies
      all_goals
        go_wp2_with (go_at_call 33; (with_reducible refine (must_no _ _ _).mono ?_); rintro e w' ⟨rfl, rfl⟩)
        exact ⟨rfl, rfl, by repeat (first | exact HS.out.bel | apply below_alloc | apply pw_below_drewN | apply below_drew1)⟩
  rw [if_neg hn] at H
  clear h4
  by_cases eb : opK t.f0
  case neg =>
    rw [if_neg eb] at H
    have H2 := H.out; clear H
    cases H2
    exact (pnode.leaf g t r n d w0 w hS0.out eb hn0 (by omega)).mono fun e w' h => ⟨⟨_, _, h.1, Kd.R_nil _ _ _ _ _, Kd.R_nil _ _ _ _ _⟩, h.2⟩
  rw [if_pos eb] at H
  exact pnode.blk k HBk.out g t r n d res w0 w hS0.out eb (fun e => Int.le_antisymm (Int.not_lt.1 fun h => h6' ⟨e, h⟩) hd0) hd0 (Int.not_le.1 fun h => hbd' ⟨eb, h⟩) hn0 (by omega) H.out
end Go.Proofs.YtkpnfejfbmandaaDoor.Px
