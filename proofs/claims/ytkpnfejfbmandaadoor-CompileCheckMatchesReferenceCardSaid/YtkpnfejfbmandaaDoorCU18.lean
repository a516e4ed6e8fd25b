import Derived.Test.YtkpnfejfbmandaaDoorCU17
import Derived.StillTailTactics
/- compile: branch with an else; all nodes. -/
namespace Go.Proofs.YtkpnfejfbmandaaDoor.Px
open Go.RowKit Go.Proofs.YtkpnfejfbmandaaDoorW.PrintWords Go.Proofs.YtkpnfejfbmandaaDoorW.PrintLast Go.Proofs.YtkpnfejfbmandaaDoorW.PrintMore
open Go.Maps Go.ChangeMaps Go.MapKept
set_option linter.unusedVariables false
set_option linter.unusedSimpArgs false
set_option maxHeartbeats 1000000 in
set_option maxRecDepth 100000 in
theorem gBranch.two (x : S78) (hk : x.f0 = 2) (h5 : x.f5 = true) (h6 : gList.Con x.f6) (h7 : gList.Con x.f7) : gBranch.Con x := by
  intro w0 g b1 b2 v st A A6 A7 c c6 c7 w hS hM hb2 hC6 hc6 hC7 hc7 hsm he hlc hlen
  rw [gN_at, if_neg (by rw [hk]; decide), if_neg (by rw [hk]; decide), if_pos hk, h5, if_pos rfl]
  rw [hk]
  have hs6 : smL x.f6 := by cases x; simp only [smN] at hsm; exact hsm.2.1
  have hs7 : smL x.f7 := by cases x; simp only [smN] at hsm; exact hsm.2.2
  have heN : eN x = eL x.f6 + eL x.f7 := by cases x; simp only at hk h5; simp [eN, hk, h5]
  have he6 : eL x.f6 ≤ st.left.length := by omega
  rw [nN_eq] at hlc hlen
  have hcl : st.code.length ≤ 1000000 := by omega
  have hgl := gL_len x.f6 (st.emit ⟨2, e0, x.f3, false, 0, 0⟩)
  rw [show (st.emit ⟨2, e0, x.f3, false, 0, 0⟩).code.length = st.code.length + 1 from by simp [KS.emit]] at hgl
  have hle := gL_left x.f6 (st.emit ⟨2, e0, x.f3, false, 0, 0⟩)
  have hcn := gL_calls_len x.f6 (st.emit ⟨2, e0, x.f3, false, 0, 0⟩)
  have hl6 : (gL x.f6 (st.emit ⟨2, e0, x.f3, false, 0, 0⟩)).left.length = st.left.length - eL x.f6 := by rw [hle, List.length_drop]; rfl
  replace hcn : (gL x.f6 (st.emit ⟨2, e0, x.f3, false, 0, 0⟩)).calls.length ≤ st.calls.length + nL x.f6 := hcn
  clear hle
  obtain ⟨W1, e1⟩ : ∃ W1, W1 = w.alloc (.cells #[.int .i64 x.f0, .int .i64 x.f1, .string x.f2, .string x.f3, .bool x.f4, .bool true, .slice A6 x.f6.length c6, .slice A7 x.f7.length c7] 78) := ⟨_, rfl⟩
  have hSW : KIn w0 g b1 b2 v st.code A c st.left W1 := by rw [e1]; exact hS.alloc _
  have hOW := Aside0.mk (show KOut w0 w g b1 b2 (some b2) v v st.code A c st.left W1 from by rw [e1]; exact hS.out.alloc _)
  have hMW := Aside0.mk (show MpC W1 b2 st.calls from by rw [e1]; exact hM.alloc _)
  have hbx := Aside0.mk (show W1.heap[w.heap.size]? = some (.cells #[.int .i64 x.f0, .int .i64 x.f1, .string x.f2, .string x.f3, .bool x.f4, .bool true, .slice A6 x.f6.length c6, .slice A7 x.f7.length c7] 78 (0, 0)) from by rw [e1]; exact blk_new _ _)
  have n3 : W1.cell? ⟨w.heap.size, 3, none⟩ = some (.string x.f3) := blk_cell hbx.out 3
  have hem := Aside0.mk (emit_any ⟨2, ⟨#[]⟩, x.f3, false, 0, 0⟩ W1 hSW hcl)
  have hli := Aside0.mk (fun v2 W (h : KIn w0 g b1 b2 v2 (st.emit ⟨2, e0, x.f3, false, 0, 0⟩).code A c (st.emit ⟨2, e0, x.f3, false, 0, 0⟩).left W) (hm : MpC W b2 (st.emit ⟨2, e0, x.f3, false, 0, 0⟩).calls) => h6 w0 g b1 b2 v2 (st.emit ⟨2, e0, x.f3, false, 0, 0⟩) A A6 c c6 W h hm hb2 hC6 hc6 hs6 he6 (by show st.calls.length + _ ≤ _; omega) (by simp only [KS.emit, List.length_append, List.length_singleton]; omega))
  generalize hY : gL x.f6 (st.emit ⟨2, e0, x.f3, false, 0, 0⟩) = Y at *
  have hl2 := Aside0.mk (fun v2 A2 c2 W (h : KIn w0 g b1 b2 v2 ((Y.emit ⟨3, e0, e0, false, 0, 0⟩).land st.code.length).code A2 c2 ((Y.emit ⟨3, e0, e0, false, 0, 0⟩).land st.code.length).left W) (hm : MpC W b2 ((Y.emit ⟨3, e0, e0, false, 0, 0⟩).land st.code.length).calls) => h7 w0 g b1 b2 v2 ((Y.emit ⟨3, e0, e0, false, 0, 0⟩).land st.code.length) A2 A7 c2 c7 W h hm hb2 hC7 hc7 hs7 (by show _ ≤ Y.left.length; omega) (by show Y.calls.length + _ ≤ _; omega) (by simp only [KS.emit, KS.land, setTo_length, List.length_append, List.length_singleton]; omega))
  replace hY := Aside0.mk hY
  have hg2 := gL_len x.f7 ((Y.emit ⟨3, e0, e0, false, 0, 0⟩).land st.code.length)
  rw [show ((Y.emit ⟨3, e0, e0, false, 0, 0⟩).land st.code.length).code.length = Y.code.length + 1 from by simp [KS.emit, KS.land, setTo_length]] at hg2
  replace hSW := Aside0.mk hSW
  rw [hk] at e1
  clear hS hM hC6 hC7 hsm h6 h7
  go_enter_defers Tryd.func92, Tryd.ntmps92
  go_upto_region 1 with fail
  rw [← e1]
  clear e1
  go_wp2_with (first | (go_at_call 59; refine hem.out.mono ?_; rintro ee w2 ⟨rfl, v2, h2⟩; have hMk := Aside0.mk (hMW.out.kept hSW.out h2); have hb2' := Aside0.mk (KOut.boxed hSW.out h2 hbx.out (by decide) (by decide)); replace h2 := Aside0.mk (hOW.out.call (h2.more (some b2))); clear n3 hem; have n6 : w2.cell? ⟨w.heap.size, 6, none⟩ = some (.slice A6 x.f6.length c6) := blk_cell hb2'.out 6) | (go_at_call 58; refine (hli.out _ _ h2.out.st hMk.out).mono ?_; rintro ee w3 ⟨rfl, v3, A3, c3, h3, hM3⟩; have n7 := KOut.boxed2 h2.out.st hMk.out h3 hb2'.out (by decide) (by decide); replace n7 := Aside0.mk n7; have n5 : w3.cell? ⟨w.heap.size, 5, none⟩ = some (.bool true) := blk_cell (KOut.boxed2 h2.out.st hMk.out h3 hb2'.out (by decide) (by decide)) 5; replace h3 := Aside0.mk (h2.out.call h3); replace hM3 := Aside0.mk hM3; clear n6 hli) | (go_at_call 59; refine (emit_any ⟨3, ⟨#[]⟩, ⟨#[]⟩, false, 0, 0⟩ _ h3.out.st (by omega)).mono ?_; rintro ee w4 ⟨rfl, v4, h4⟩; have hM4 := Aside0.mk (hM3.out.kept h3.out.st h4); have n8 := Aside0.mk (KOut.boxed h3.out.st h4 n7.out (by decide) (by decide)); replace h4 := Aside0.mk (h3.out.call (h4.more (some b2))); clear h3 hM3 n5 n7) | (go_at_call 93; refine (land_any st.code.length (by rw [List.length_append, List.length_singleton]; omega) _ h4.out.st).mono ?_; rintro ee w5 ⟨rfl, h5'⟩; have hM5 := Aside0.mk (hM4.out.kept h4.out.st h5'); have n9 := KOut.boxed h4.out.st h5' n8.out (by decide) (by decide); have n7 : w5.cell? ⟨w.heap.size, 7, none⟩ = some (.slice A7 x.f7.length c7) := blk_cell n9 7; clear n9; replace h5' := Aside0.mk (h4.out.call (h5'.more (some b2))); clear h4 hM4) | (go_at_call 58; refine (hl2.out _ _ _ _ h5'.out.st hM5.out).mono ?_; rintro ee w6 ⟨rfl, v6, A6', c6', h6', hM6⟩; replace h6' := Aside0.mk (h5'.out.call h6'); replace hM6 := Aside0.mk hM6; clear n7 hl2 h5' hM5))
  all_goals
    refine leaves_cons (f := 93) (args := #[.pointer (some ⟨g, 0, none⟩), .int .i64 Y.code.length]) (by simp) (by simp [go_sem]) ?_
    refine (land_deferred Y.code.length (by omega) .returning _ h6'.out.st).mono ?_
    rintro e u' w7 ⟨rfl, rfl, h7'⟩
    have hM7 := hM6.out.kept h6'.out.st h7'
    exact ⟨.tuple #[], results_none rfl _ _ _, rfl, _, _, _, h6'.out.call (h7'.more (some b2)), hM7⟩
theorem gBranch.any (x : S78) (hk : x.f0 = 2) (h6 : gList.Con x.f6) (h7 : gList.Con x.f7) : gBranch.Con x := by
  cases h5 : x.f5
  · exact gBranch.one x hk h5 h6
  · exact gBranch.two x hk h5 h6 h7
theorem gen_all : ∀ (n : Nat), (∀ l : List S78, SizeOf.sizeOf l < n → gList.Con l) := by
  intro n
  induction n with
  | zero => intro l h; exact absurd h (Nat.not_lt_zero _)
  | succ n ih =>
    intro l h
    refine gList.step l fun x hx => ?_
    have h1 := List.sizeOf_lt_of_mem hx
    have h2 : SizeOf.sizeOf x.f6 < SizeOf.sizeOf x ∧ SizeOf.sizeOf x.f7 < SizeOf.sizeOf x := by cases x; simp; omega
    exact gNode.any x (ih _ (by omega)) (fun hk => gBranch.any x hk (ih _ (by omega)) (ih _ (by omega)))
theorem gen_list (l : List S78) : gList.Con l := gen_all _ l (Nat.lt_succ_self _)
end Go.Proofs.YtkpnfejfbmandaaDoor.Px

/- compile.Code: the map of the escapers, exactly; its operations. -/
namespace Go.Proofs.YtkpnfejfbmandaaDoor.Px
open Go.RowKit Go.Proofs.YtkpnfejfbmandaaDoorW.PrintWords Go.Proofs.YtkpnfejfbmandaaDoorW.PrintLast Go.Proofs.YtkpnfejfbmandaaDoorW.PrintMore
open Go.Maps Go.ChangeMaps Go.MapKept
set_option linter.unusedVariables false
set_option linter.unusedSimpArgs false
theorem modify_mid {α : Type} (f : α → α) (x : α) (B : List α) : ∀ (A : List α), (A ++ x :: B).modify A.length f = A ++ f x :: B
  | [] => rfl
  | a :: A => by
    rw [List.cons_append, List.length_cons, List.modify_succ_cons, modify_mid f x B A]
    rfl
/-- The entries 0, 1, 2, .. -/
def escL (vs : List Value) : List MapEntry := vs.zipIdx.map fun p => { key := .int .i64 p.2, val := p.1, born := p.2 }
/-- Block b is the map of these values at 0, 1, 2, .. -/
def EscB (w : World) (b : Nat) (vs : List Value) : Prop := w.heap[b]? = some (.map (escL vs).toArray vs.length)
def mapW (w : World) (b : Nat) (es : Array MapEntry) (n : Nat) : World := { w with heap := w.heap.setIfInBounds b (.map es n) }
theorem escL_snoc (vs : List Value) (v : Value) : escL (vs ++ [v]) = escL vs ++ [{ key := .int .i64 vs.length, val := v, born := vs.length }] := by
  unfold escL
  rw [List.zipIdx_append]
  simp
theorem escL_len (vs : List Value) : (escL vs).length = vs.length := by simp [escL]
theorem escL_at (vs : List Value) (j : Nat) : (escL vs)[j]? = (vs[j]?).map fun v => { key := .int .i64 j, val := v, born := j } := by
  unfold escL
  rw [List.getElem?_map, List.getElem?_zipIdx]
  cases vs[j]? <;> simp
theorem escL_mem {vs : List Value} {x : MapEntry} (h : x ∈ escL vs) : ∃ j, j < vs.length ∧ x.key = .int .i64 j ∧ x.born = j := by
  obtain ⟨j, hj⟩ := List.mem_iff_getElem?.1 h
  rw [escL_at] at hj
  obtain ⟨v, hv, rfl⟩ := Option.map_eq_some_iff.1 hj
  exact ⟨j, (List.getElem?_eq_some_iff.1 hv).1, rfl, rfl⟩
theorem escL_key (vs : List Value) : ∀ x ∈ escL vs, IsKey (.int .i64) x.key := fun x hx => by
  obtain ⟨j, _, e, _⟩ := escL_mem hx
  rw [e]; rfl
theorem EscB.lt {w b vs} (h : EscB w b vs) : b < w.heap.size := (Array.getElem?_eq_some_iff.1 h).1
theorem EscB.move {w w1 b vs} (h : EscB w b vs) (hb : w1.heap[b]? = w.heap[b]?) : EscB w1 b vs := hb.trans h
theorem EscB.alloc {w b vs} (h : EscB w b vs) (o : Obj) : EscB (w.alloc o) b vs := h.move (Below.heap_alloc w o b h.lt)
theorem EscB.drew {w b vs} (h : EscB w b vs) : EscB w.drew b vs := h
theorem EscB.start (w : World) : EscB (w.alloc (.map #[] 0)) w.heap.size [] := by
  unfold EscB
  exact (heap_alloc w (.map #[] 0)).1
theorem zero35 (w : World) : (zeroValue 35).run Tryd.prog w = .ok (.slice none 0 0) w := by kernel_rfl
theorem EscB.entry {w b vs} (h : EscB w b vs) : (Instr.mapEntry 119 (.map (some b)) (.int .i64 vs.length)).run Tryd.prog w = .ok (.tuple #[.slice none 0 0, .int .i64 vs.length]) (mapW w b ((escL vs).toArray.push { key := .int .i64 vs.length, val := .slice none 0 0, born := vs.length }) (vs.length + 1)) := by
  have hk : IsKey (.int .i64) (.int .i64 vs.length) := rfl
  rcases findNow_spec hk (escL vs) 0 (escL_key vs) with ⟨h1, h2⟩ | ⟨j, e, h1, h2, h3⟩
  · simp only [Instr.mapEntry, Sem.run_bind, run_underlying Tryd.underlying119, Go.MapKept.run_getObj_map h, Go.MapKept.run_checkKey Tryd.underlying3 hk, Go.MapKept.run_findKey Tryd.underlying3 h1, Result.andThen, zero35, Go.MapKept.run_setObj_map _ h]
    rfl
  · exfalso
    obtain ⟨q, hq, e1, _⟩ := escL_mem (List.mem_of_getElem? h2)
    rw [h3] at e1
    have : (vs.length : Int) = q := by simpa using e1
    omega
theorem mapW_at {w : World} {b : Nat} (hb : b < w.heap.size) (es : Array MapEntry) (n : Nat) : (mapW w b es n).heap[b]? = some (.map es n) := by simp [mapW, hb]
theorem mapW_grown {w : World} {b : Nat} {o : Obj} (h : w.heap[b]? = some o) (es : Array MapEntry) (n : Nat) : w.grownBy (mapW w b es n) (some b) :=
  ⟨rfl, rfl, rfl, by simp [mapW], fun i hi hne => by
    have : b ≠ i := fun e => hne (by rw [e])
    simp [mapW, this]⟩
theorem mapW_twice (w : World) (b : Nat) (es es2 : Array MapEntry) (n n2 : Nat) : mapW (mapW w b es n) b es2 n2 = mapW w b es2 n2 := by simp [mapW]
theorem EscB.store {w b vs} (h : EscB w b vs) (v : Value) : (Instr.entryStore 119 (.map (some b)) (.int .i64 vs.length) v).run Tryd.prog (mapW w b ((escL vs).toArray.push { key := .int .i64 vs.length, val := .slice none 0 0, born := vs.length }) (vs.length + 1)) = .ok () (mapW w b (escL (vs ++ [v])).toArray (vs.length + 1)) := by
  have hb := mapW_at h.lt ((escL vs).toArray.push { key := .int .i64 vs.length, val := .slice none 0 0, born := vs.length }) (vs.length + 1)
  have hai : (asInt (.int .i64 vs.length)).run Tryd.prog (mapW w b ((escL vs).toArray.push { key := .int .i64 vs.length, val := .slice none 0 0, born := vs.length }) (vs.length + 1)) = .ok (vs.length : Int) (mapW w b ((escL vs).toArray.push { key := .int .i64 vs.length, val := .slice none 0 0, born := vs.length }) (vs.length + 1)) := rfl
  have hf : ((escL vs).toArray.push { key := .int .i64 vs.length, val := .slice none 0 0, born := vs.length : MapEntry }).findIdx? (fun e => (e.born : Int) == (vs.length : Int)) = some vs.length := by
    rw [Array.findIdx?_eq_some_iff_getElem]
    refine ⟨by simp [escL_len], ?_, fun j hj => ?_⟩
    · simp [escL_len]
    · have hj' : j < (escL vs).length := by rw [escL_len]; exact hj
      rw [Array.getElem_push_lt (by simpa using hj')]
      obtain ⟨q, hq, _, e2⟩ := escL_mem (List.getElem_mem hj')
      have e3 : (escL vs)[j].born = j := by
        have := escL_at vs j
        rw [List.getElem?_eq_getElem hj', List.getElem?_eq_getElem hj] at this
        simp at this
        rw [this]
      simp only [List.getElem_toArray, e3]
      simp
      omega
  simp only [Instr.entryStore, Sem.run_bind, Go.MapKept.run_getObj_map hb, Result.andThen, hai, hf]
  rw [Go.MapKept.run_setObj_map _ hb]
  congr 1
  show mapW (mapW w b _ _) b _ _ = _
  rw [mapW_twice]
  congr 1
  rw [escL_snoc]
  apply Array.ext'
  simp [Array.toList_modify]
  have := modify_mid (fun e : MapEntry => { e with val := v }) { key := .int .i64 vs.length, val := .slice none 0 0, born := vs.length } [] (escL vs)
  rw [escL_len] at this
  exact this
theorem EscB.stored {w b vs} (h : EscB w b vs) (v : Value) : EscB (mapW w b (escL (vs ++ [v])).toArray (vs.length + 1)) b (vs ++ [v]) := by
  unfold EscB
  rw [mapW_at h.lt, List.length_append, List.length_singleton]
theorem EscB.look {w b vs} (h : EscB w b vs) (i : Nat) {v : Value} (hi : vs[i]? = some v) : (Instr.lookup 119 (.map (some b)) (.int .i64 i) false).run Tryd.prog w = .ok v w := by
  have hk : IsKey (.int .i64) (.int .i64 i) := rfl
  have hil := (List.getElem?_eq_some_iff.1 hi).1
  rcases findNow_spec hk (escL vs) 0 (escL_key vs) with ⟨h1, h2⟩ | ⟨j, e, h1, h2, h3⟩
  · exfalso
    have hx := escL_at vs i
    rw [hi] at hx
    exact h2 _ (List.mem_of_getElem? hx) rfl
  · rw [escL_at] at h2
    obtain ⟨u, hu, rfl⟩ := Option.map_eq_some_iff.1 h2
    have : (j : Int) = i := by simpa using h3
    have hji : j = i := by omega
    subst hji
    rw [hi] at hu
    obtain rfl := Option.some.inj hu
    simp only [Instr.lookup, Sem.run_bind, run_underlying Tryd.underlying119, Go.MapKept.run_getObj_map h, Go.MapKept.run_checkKey Tryd.underlying3 hk, Go.MapKept.run_findKey Tryd.underlying3 h1, Result.andThen, Sem.run_pure]
    rfl
end Go.Proofs.YtkpnfejfbmandaaDoor.Px

/- compile.Code$1; a list of one node in a box of its own. -/
namespace Go.Proofs.YtkpnfejfbmandaaDoor.Px
open Go.RowKit Go.Proofs.YtkpnfejfbmandaaDoorW.PrintWords Go.Proofs.YtkpnfejfbmandaaDoorW.PrintLast Go.Proofs.YtkpnfejfbmandaaDoorW.PrintMore
open Go.Maps Go.ChangeMaps Go.MapKept
set_option linter.unusedVariables false
set_option linter.unusedSimpArgs false
abbrev nodC (x : S78) (A6 A7 : Option Addr) (c6 c7 : Nat) : Array Value := #[.int .i64 x.f0, .int .i64 x.f1, .string x.f2, .string x.f3, .bool x.f4, .bool x.f5, .slice A6 x.f6.length c6, .slice A7 x.f7.length c7]
theorem C_box {W : World} {B : Nat} {x : S78} {A6 A7 : Option Addr} {c6 c7 : Nat} (hb : W.heap[B]? = some (.cells (nodC x A6 A7 c6 c7) 78 (0, 0))) (l6 : x.f6.length ≤ c6) (g6 : Kd.C k78 W A6 x.f6.length x.f6) (l7 : x.f7.length ≤ c7) (g7 : Kd.C k78 W A7 x.f7.length x.f7) :
    Kd.C k78 W (some ⟨B, 0, none⟩) [x].length [x] := by
  refine ⟨rfl, by simp, fun _ => ⟨⟨B, 0, none⟩, rfl, fun j p hj => ?_⟩⟩
  cases j with
  | succ j => simp at hj
  | zero =>
    obtain rfl : x = p := by simpa using hj
    refine ⟨_, rfl, k78_mk W x l6 g6 l7 g7, fun i u hu => ?_⟩
    have hc := blk_cell hb i
    have e : (⟨B, 0, none⟩ : Addr).add (0 * k78.sz + i) = ⟨B, i, none⟩ := by
      unfold Addr.add
      simp
      try (intro h; omega)
    rw [e, hc]
    simpa using hu
theorem KIn.lefted {w0 g b1 b2 v code A c left W} (h : KIn w0 g b1 b2 v code A c left W) {A' : Option Addr} {c' : Nat} {es : List Int} (hC : Kd.C (Kd.int .i64) w0 A' es.length es) (hle : es.length ≤ c') :
    KOut w0 W g b1 b2 none v v code A' c' es (W.setCell ⟨g, 2, none⟩ (.slice A' es.length c')) :=
  ⟨⟨blk_set h.blk 2 _, Kd.R_far h.own (fun _ h => h) _, hC, hle, h.bel.setCell h.ge _, h.ge⟩, (Kp3.refl _ _ _ _).set 2 _, .inl rfl⟩
theorem EscB.ne_g {w b vs w0 g b1 b2 v code A c left} (h : EscB w b vs) (hS : KIn w0 g b1 b2 v code A c left w) : b ≠ g := by
  rintro rfl
  have h1 : w.heap[b]? = _ := h
  rw [hS.blk] at h1
  cases h1
theorem EscB.ne_row {w b vs w0 g b1 b2 v code A c left} (h : EscB w b vs) (hS : KIn w0 g b1 b2 v code A c left w) : some b ≠ v.ownBlock := by
  intro e
  have h1 : w.heap[b]? = _ := h
  obtain ⟨_, inner, ho, _⟩ := hS.own
  rcases ho.2 with ⟨rfl, _⟩ | ⟨g', cap, cur, rfl, _, hh, _⟩
  · cases e
  · obtain rfl : b = g' := by simpa [Value.ownBlock] using e
    rw [hh] at h1
    cases h1
theorem EscB.kept {w b vs w0 g b1 b2 v v2 code A c left code2 A2 c2 left2 W} (h : EscB w b vs) (hne : b ≠ b2) (hS : KIn w0 g b1 b2 v code A c left w) (hO : KOut w0 w g b1 b2 (some b2) v v2 code2 A2 c2 left2 W) : EscB W b vs :=
  h.move (hO.keep.2 b h.lt (h.ne_g hS) (by simpa using hne) (h.ne_row hS))
set_option maxHeartbeats 1000000 in
set_option maxRecDepth 100000 in
theorem list1_any (x : S78) (hN : gNode.Con x) (w0 : World) (g b1 b2 : Nat) (v : Value) (st : KS) (A A6 A7 : Option Addr) (c c6 c7 B : Nat) (w : World) (hS : KIn w0 g b1 b2 v st.code A c st.left w) (hM : MpC w b2 st.calls) (hb2 : w0.heap.size ≤ b2)
    (hb : w.heap[B]? = some (.cells (nodC x A6 A7 c6 c7) 78 (0, 0))) (hC6 : Kd.C k78 w0 A6 x.f6.length x.f6) (hc6 : x.f6.length ≤ c6) (hC7 : Kd.C k78 w0 A7 x.f7.length x.f7) (hc7 : x.f7.length ≤ c7) (hsm : smN x) (he : eN x ≤ st.left.length) (hlc : st.calls.length + nN x ≤ 1000000) (hlen : st.code.length + 2 * nN x ≤ 1000000) :
    Calls Tryd.prog 58 #[.pointer (some ⟨g, 0, none⟩), .slice (some ⟨B, 0, none⟩) 1 1] w fun e w' =>
      e = .returned (.tuple #[]) ∧ ∃ v' A' c', KOut w0 w g b1 b2 (some b2) v v' (gN x st).code A' c' (gN x st).left w' ∧ MpC w' b2 (gN x st).calls := by
  have hcall := Aside0.mk (fun W hk hm => hN w0 g b1 b2 v st A A6 A7 c c6 c7 W hk hm hb2 hC6 hc6 hC7 hc7 hsm he hlc hlen)
  generalize gN x st = Y at *
  have x0 : w.cell? ⟨B, 0, none⟩ = some (.int .i64 x.f0) := blk_cell hb 0
  have x1 : w.cell? ⟨B, 1, none⟩ = some (.int .i64 x.f1) := blk_cell hb 1
  have x2 : w.cell? ⟨B, 2, none⟩ = some (.string x.f2) := blk_cell hb 2
  have x3 : w.cell? ⟨B, 3, none⟩ = some (.string x.f3) := blk_cell hb 3
  have x4 : w.cell? ⟨B, 4, none⟩ = some (.bool x.f4) := blk_cell hb 4
  have x5 : w.cell? ⟨B, 5, none⟩ = some (.bool x.f5) := blk_cell hb 5
  have x6 : w.cell? ⟨B, 6, none⟩ = some (.slice A6 x.f6.length c6) := blk_cell hb 6
  have x7 : w.cell? ⟨B, 7, none⟩ = some (.slice A7 x.f7.length c7) := blk_cell hb 7
  have hbl := blk_lt hb
  replace hS := Aside0.mk hS
  replace hM := Aside0.mk hM
  clear hC6 hC7 hsm he hlc hlen hb hN
  go_enter Tryd.func58, Tryd.ntmps58
  go_wp2
  go_loopg [8] 1 (fun kq v8 wr => (kq = 1 ∧ v8 = .int .i64 0 ∧ wr = w) ∨ (kq = 0 ∧ v8 = .int .i64 1 ∧ ∃ v' A' c', KOut w0 w g b1 b2 (some b2) v v' Y.code A' c' Y.left wr ∧ MpC wr b2 Y.calls))
  case atStart => exact .inl ⟨rfl, rfl, rfl⟩
  case round =>
    rcases hrel with ⟨rfl, rfl, rfl⟩ | ⟨rfl, rfl, v2, A2, c2, h2, hM2⟩
    · have hgr := blk_lt hS.out.blk
      go_wp2_with (go_at_call 80; refine (hcall.out _ (hS.out.alloc _) (hM.out.alloc _)).mono ?_; rintro e w3 ⟨rfl, v2, A2, c2, h3, hM3⟩; replace h3 := Aside0.mk ((hS.out.out.alloc _).call h3); replace hM3 := Aside0.mk hM3; clear hcall x0 x1 x2 x3 x4 x5 x6 x7)
      go_roundg 0
      case measure => decide
      case rel => exact .inr ⟨rfl, by simp, v2, A2, c2, h3.out, hM3.out⟩
    · replace h2 := Aside0.mk h2
      replace hM2 := Aside0.mk hM2
      clear hcall x0 x1 x2 x3 x4 x5 x6 x7
      go_wp2
      exact Go.Great.bodyPost_end0 rfl rfl ⟨rfl, _, _, _, h2.out, hM2.out⟩
set_option maxHeartbeats 1000000 in
set_option maxRecDepth 100000 in
theorem top_any {w0 g b1 b2 v code A c left} (i : Nat) (L : Value) (es : List Int) (A' : Option Addr) (c' p : Nat) (w : World) (hS : KIn w0 g b1 b2 v code A c left w) (vs : List Value) (hE : EscB w b1 vs) (hv : vs[i]? = some (.slice A' es.length c'))
    (hC : Kd.C (Kd.int .i64) w0 A' es.length es) (hle : es.length ≤ c') (hp : w.heap[p]? = some (.cells #[.pointer (some ⟨g, 0, none⟩)] 118 (0, 0))) (Q : World → Prop)
    (hcall : ∀ W, KOut w0 w g b1 b2 none v v code A' c' es W → Calls Tryd.prog 58 #[.pointer (some ⟨g, 0, none⟩), L] W fun e w' => e = .returned (.tuple #[]) ∧ Q w') :
    Calls Tryd.prog 57 #[.int .i64 i, L, .pointer (some ⟨p, 0, none⟩)] w fun e w' => e = .returned (.tuple #[]) ∧ Q w' := by
  have p0 : w.cell? ⟨p, 0, none⟩ = some (.pointer (some ⟨g, 0, none⟩)) := blk_cell hp 0
  have g1 : w.cell? ⟨g, 1, none⟩ = some (.map (some b1)) := blk_cell hS.blk 1
  have g2 : w.cell? ⟨g, 2, none⟩ = some (.slice A left.length c) := blk_cell hS.blk 2
  have f2 := blk_frozen hS.blk 2
  have hlg := blk_lt hS.blk
  have hlp := blk_lt hp
  have hpg : p ≠ g := fun e => by rw [e, hS.blk] at hp; cases hp
  have hlook := hE.drew.look i hv
  have hK := Aside0.mk (hS.drew.lefted hC hle)
  have hD := Aside0.mk (hS.out (mb := none)).drew
  replace hcall := Aside0.mk hcall
  replace hS := Aside0.mk hS
  clear hC hp hE
  go_enter Tryd.func57, Tryd.ntmps57
  go_upto_region 0 with fail
  refine wp_region_still_tail 9 (by kernel_rfl) (by kernel_rfl) ?_
  simp only [List.take_succ_cons, List.take_zero, List.drop_succ_cons, List.drop_zero]
  change wpStill _ _ (World.drew _) (fun a' => wpList _ _ _ _ a' (World.drew _)) _ _
  repeat (refine wpStill_step (fun K hK => ?_); go_simp; refine hK _ ?_; clear hK K)
  refine wpStill_nil ?_
  have p1 : (w.drew.setCell ⟨g, 2, none⟩ (.slice A' es.length c')).cell? ⟨p, 0, none⟩ = some (.pointer (some ⟨g, 0, none⟩)) := (cell_far hpg _).trans p0
  go_wp2_with (go_at_call 58; refine (hcall.out _ (hD.out.call hK.out)).mono ?_; rintro e w3 ⟨rfl, h3⟩; replace h3 := Aside0.mk h3)
  exact Go.Great.bodyPost_end0 rfl rfl ⟨rfl, h3.out⟩
end Go.Proofs.YtkpnfejfbmandaaDoor.Px
