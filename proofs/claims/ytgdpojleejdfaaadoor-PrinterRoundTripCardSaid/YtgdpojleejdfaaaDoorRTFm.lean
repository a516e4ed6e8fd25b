import Derived.Test.YtgdpojleejdfaaaDoorRTVi
import Derived.Test.YtgdpojleejdfaaaDoorRTWb
/- Contract of printer.Format. -/
namespace Go.Proofs.YtgdpojleejdfaaaDoor.Px
open Go.RowKit Go.Proofs.YtgdpojleejdfaaaDoorW.PrintWords Go.Proofs.YtgdpojleejdfaaaDoorW.PrintLast Go.Proofs.YtgdpojleejdfaaaDoorW.PrintMore
set_option linter.unusedVariables false
set_option linter.unusedSimpArgs false
attribute [local go_sem] Oper.semAt_some
theorem visit_all (P : Tk → Prop) (w0 : World) (l N : Nat) (J Jx : List Tk → World → Prop) (hJ : ∀ pre W o, J pre W → J pre (W.alloc o)) (hY : YOK P w0 l N J Jx) : ∀ (k : Nat) (a : List S39), SizeOf.sizeOf a < k → visit.Con P w0 l N J Jx a
  | 0, a, h => absurd h (Nat.not_lt_zero _)
  | k + 1, a, h => visit_step P w0 l N J Jx hJ hY a fun x hx => by
      have h1 := List.sizeOf_lt_of_mem hx
      exact ⟨visit_all P w0 l N J Jx hJ hY k x.f6 (by have := S39.size6 x; omega), visit_all P w0 l N J Jx hJ hY k x.f7 (by have := S39.size7 x; omega)⟩
def fmtT (x : Tk) : ByteArray := fmtTok x.1 x.2.1 x.2.2.1 x.2.2.2
def okTk (x : Tk) : Prop := x.2.1.size ≤ 1099511627776 ∧ x.2.2.1.size ≤ 1099511627776 ∧ (fmtT x).size ≤ 1048576
instance okTk.dec (x : Tk) : Decidable (okTk x) := by unfold okTk; infer_instance
abbrev TkO := {x : Tk // okTk x}
def fmtB (xs : List Tk) : List UInt8 := xs.flatMap fun x => (fmtT x).data.toList
theorem fmtB_snoc (xs : List Tk) (x : Tk) : fmtB (xs ++ [x]) = fmtB xs ++ (fmtT x).data.toList := by simp [fmtB]
theorem fmtB_len : ∀ (xs : List TkO), (fmtB (xs.map (·.1))).length ≤ xs.length * 1048576
  | [] => by simp [fmtB]
  | x :: xs => by
    have h1 := fmtB_len xs
    have h2 : (fmtT x.1).data.toList.length ≤ 1048576 := x.2.2.2
    have h3 : fmtB ((x :: xs).map (·.1)) = (fmtT x.1).data.toList ++ fmtB (xs.map (·.1)) := by simp [fmtB]
    rw [h3, List.length_append, List.length_cons]
    omega
theorem KT.grown {A B : World} {row : Option Nat} (hg : A.grownBy B row) (hr : ∀ r, row = some r → ∃ o : Obj, A.heap[r]? = some o ∧ o.isCells = false) : KT A B :=
  ⟨hg.size, fun k cs fr h => (hg.block k (Array.getElem?_eq_some_iff.1 h).1 (fun e => by
    obtain ⟨o, ho, hc⟩ := hr k e.symm
    rw [h] at ho; cases ho; cases hc)).trans h⟩
theorem KT.below {A B : World} (h : Below A.heap.size A B) : KT A B := ⟨h.size, fun k cs fr hk => blk_below hk h⟩
theorem bld_kept {T e : TypeId} {B b : Nat} {bs : List Value} {W W' : World} (h : Lib.IsBuilderF T e B b bs W) (hk : ∀ (k : Nat) (cs : Array Value) (t : TypeId) (fr : Nat × Nat), W.heap[k]? = some (.cells cs t fr) → W'.heap[k]? = some (.cells cs t fr)) :
    Lib.IsBuilderF T e B b bs W' := by
  have one : ∀ {p : Value}, Lib.BuilderAtF T e B b p bs W → Lib.BuilderAtF T e B b p bs W' := by
    rintro p ⟨hB, v, hb, hown, hne⟩
    refine ⟨hB, v, hk _ _ _ _ hb, ⟨hown.1, ?_⟩, hne⟩
    rcases hown.2 with hn | ⟨g, cap, cur, fz, hv, hbg, hg, rest⟩
    · exact .inl hn
    · exact .inr ⟨g, cap, cur, fz, hv, hbg, hk _ _ _ _ hg, rest⟩
  exact h.elim (fun x => .inl (one x)) (fun x => .inr (one x))
theorem bld_lt {T e : TypeId} {B b : Nat} {bs : List Value} {W : World} (h : Lib.IsBuilderF T e B b bs W) : b < W.heap.size := by
  rcases h with ⟨_, v, h, _⟩ | ⟨_, v, h, _⟩ <;> exact (Array.getElem?_eq_some_iff.1 h).1
theorem cells_grown {A B : World} {row : Option Nat} (hg : A.grownBy B row) (hr : ∀ r, row = some r → ∃ o : Obj, A.heap[r]? = some o ∧ o.isCells = false) (k : Nat) (cs : Array Value) (t : TypeId) (fr : Nat × Nat) (h : A.heap[k]? = some (.cells cs t fr)) : B.heap[k]? = some (.cells cs t fr) :=
  (hg.block k (Array.getElem?_eq_some_iff.1 h).1 (fun e => by
    obtain ⟨o, ho, hc⟩ := hr k e.symm
    rw [h] at ho; cases ho; cases hc)).trans h
def KpT (n₀ : Nat) (A B : World) : Prop := Below n₀ A B ∧ KT A B
set_option maxHeartbeats 1000000 in
theorem tokens1_in (we : World) (a : List S39) (A : Option Addr) (c Bt : Nat) (n l : Nat) (J Jx : List TkO → World → Prop) (hP : ∀ y ∈ toksL a, okTk y) (ha : Kd.C k39 we A a.length a) (hc : a.length ≤ c)
    (hJ : ∀ pre W o, J pre W → J pre (W.alloc o))
    (hY : ∀ pre x W, J pre W → pre.length < (toksL a).length → YieldAt Fence.wide (n - 1) Tryd.prog l #[tkV x.1] W fun e W' =>
      (e = .returned (.bool true) ∧ J (pre ++ [x]) W' ∧ KpT we.heap.size W W') ∨ (e = .returned (.bool false) ∧ Jx (pre ++ [x]) W'))
    (W : World) (hBW : Below we.heap.size we W) (hBt : W.cell? ⟨Bt, 0, none⟩ = some (.slice A a.length c)) (h0 : J [] W) :
    CallsIn Fence.wide n Tryd.prog 72 #[.func (.yield l) #[] #[], .pointer (some ⟨Bt, 0, none⟩)] W fun e W' => (∃ v, e = .returned v) ∧
      ((∃ ys, ys.map (·.1) = toksL a ∧ J ys W') ∨ (∃ pre, True ∧ Jx pre W')) := by
  have hv := visit_all okTk we l (toksL a).length (fun p W => ∃ q : List TkO, q.map (·.1) = p ∧ J q W) (fun _ W => ∃ q : List TkO, Jx q W)
    (fun p W o ⟨q, hq, hj⟩ => ⟨q, hq, hJ _ _ _ hj⟩)
    (fun m p x W hx hB ⟨q, hq, hj⟩ hl => by
      have hl' : q.length < (toksL a).length := by rw [← hq, List.length_map] at hl; exact hl
      refine YieldAt.mono (YieldAt.anyDepth rfl m (hY q ⟨x, hx⟩ W hj hl')) ?_
      rintro e W' (⟨he, hj', hb, hk⟩ | ⟨he, hx'⟩)
      · exact .inl ⟨he, ⟨q ++ [⟨x, hx⟩], by simp [hq], hj'⟩, hB.trans hb, hk⟩
      · exact .inr ⟨he, _, hx'⟩) _ a (Nat.lt_succ_self _) (n - 1) A c [] W hP ha hc hBW ⟨[], rfl, h0⟩ (by simp)
  replace hv := Aside0.mk hv
  clear hY hJ
  refine callsIn_of_wp Tryd.func72 rfl trivial ?_ rfl
  simp only [Tryd.ntmps72, List.size_toArray, List.length_cons, List.length_nil, Nat.reduceAdd, Nat.reduceSub, Array.replicate_succ, Array.replicate_zero, List.push_toArray, List.append_toArray, List.nil_append, List.cons_append]
  gi_wp2_with fail
  refine ⟨trivial, fun h => (by cases h), ?_⟩
  refine hv.out.mono ?_
  rintro e W1 (⟨rfl, ⟨q, hq, hj⟩, _⟩ | ⟨rfl, _, q, hx⟩)
  · gi_wp2
    go_end0
    exact ⟨⟨_, rfl⟩, .inl ⟨q, by simpa using hq, hj⟩⟩
  · gi_wp2
    go_end0
    exact ⟨⟨_, rfl⟩, .inr ⟨q, trivial, hx⟩⟩
theorem tokens_in (n : Nat) (A : Option Addr) (m c : Nat) (w : World) :
    CallsIn Fence.wide n Tryd.prog 54 #[.slice A m c] w fun e w' => e = .returned (.func (.func 72) #[] #[.pointer (some ⟨w.heap.size, 0, none⟩)]) ∧ w' = w.alloc (.cells #[.slice A m c] 32) := by
  refine callsIn_of_wp Tryd.func54 rfl trivial ?_ rfl
  simp only [Tryd.ntmps54, List.size_toArray, List.length_cons, List.length_nil, Nat.reduceAdd, Nat.reduceSub, Array.replicate_succ, Array.replicate_zero, List.push_toArray, List.append_toArray, List.nil_append, List.cons_append]
  gi_wp2
  go_ret
  exact ⟨rfl, rfl⟩
theorem tokens_stops (we : World) (a : List S39) (A : Option Addr) (c Bt : Nat) (n : Nat) (hP : ∀ y ∈ toksL a, okTk y) (ha : Kd.C k39 we A a.length a) (hc : a.length ≤ c) (w : World) (hBw : Below we.heap.size we w)
    (hBt : Bt < w.heap.size) (hcell : w.cell? ⟨Bt, 0, none⟩ = some (.slice A a.length c)) :
    SeqStopsK Fence.wide n Tryd.prog 72 #[.pointer (some ⟨Bt, 0, none⟩)] (fun x : TkO => #[tkV x.1]) (KpT we.heap.size) (fun ys => ys.map (·.1) = toksL a) (fun _ => True) (toksL a).length w :=
  fun l J Jx W hW hJ _ hY h0 => tokens1_in we a A c Bt n l J Jx hP ha hc (fun pre W o h => hJ pre W _ none h (World.grownBy_alloc W o none) (fun r e => by cases e)) hY W (hBw.trans (hW.mono hBw.size)) ((hW.cell (p := ⟨Bt, 0, none⟩) hBt).trans hcell) h0
def FmI (w : World) (pre : List TkO) (W : World) : Prop := Lib.IsBuilderF 89 5 w.heap.size w.heap.size (Lib.byteCells (fmtB (pre.map (·.1)))) W ∧ Below w.heap.size w W
def printer_Format.f (l : List S39) : Option ByteArray := if (∀ y ∈ toksL l, okTk y) ∧ (toksL l).length ≤ 1048576 then some ⟨(fmtB (toksL l)).toArray⟩ else none
set_option maxRecDepth 100000 in
set_option maxHeartbeats 4000000 in
theorem printer_Format.in_ (A : Option Addr) (c : Nat) (l : List S39) (w : World) (ha : Kd.C k39 w A l.length l) (hc : l.length ≤ c) (hP : ∀ y ∈ toksL l, okTk y) (hN : (toksL l).length ≤ 1048576) :
    CallsIn Fence.wide 9 Tryd.prog 33 #[.slice A l.length c] w fun e w' => e = .returned (.string ⟨(fmtB (toksL l)).toArray⟩) ∧ Below w.heap.size w w' := by
  refine callsIn_of_wp_marks Tryd.func33 rfl trivial ?_ rfl
  simp only [Tryd.ntmps33, List.size_toArray, List.length_cons, List.length_nil, Nat.reduceAdd, Nat.reduceSub, Array.replicate_succ, Array.replicate_zero, List.push_toArray, List.append_toArray, List.nil_append, List.cons_append]
  gi_wp2_with fail
  refine ⟨trivial, ?_⟩
  refine (tokens_in _ _ _ _ _).mono ?_
  rintro e w' ⟨rfl, rfl⟩
  gi_wp2
  obtain ⟨W0, hW0⟩ : ∃ W0, (w.alloc (.cells #[.pointer none, .slice none 0 0] 89)).alloc (.cells #[.slice A l.length c] 32) = W0 := ⟨_, rfl⟩
  have hB0 : Below w.heap.size w W0 := by rw [← hW0]; exact below_alloc (below_alloc (Below.refl _ _) _) _
  have hsz : W0.heap.size = w.heap.size + 2 := by rw [← hW0]; simp
  have hb0 : W0.heap[w.heap.size]? = some (.cells #[.pointer none, .slice none 0 0] 89 (0, 0)) := by rw [← hW0]; exact blk_alloc (blk_new _ _) _
  have hc1 : W0.cell? ⟨w.heap.size + 1, 0, none⟩ = some (.slice A l.length c) := by
    have h := blk_cell (blk_new (w.alloc (.cells #[.pointer none, .slice none 0 0] 89)) (.cells #[.slice A l.length c] 32)) 0
    rw [World.size_alloc, hW0] at h
    exact h
  have hI0 : FmI w [] W0 := ⟨.inl ⟨Nat.le_refl _, .slice none 0 0, hb0, ⟨rfl, .inl ⟨rfl, rfl⟩⟩, by simp [Value.ownBlock]⟩, hB0⟩
  try simp only [World.size_alloc]
  rw [hW0]
  clear hb0 hW0
  refine wpIn_rangeFunc_ownH rfl (by decide) (gf := 72) (lb := #[.pointer (some ⟨w.heap.size + 1, 0, none⟩)]) rfl trivial (enters_of Tryd.func72 (by kernel_rfl) rfl)
    (tokens_stops w l A c (w.heap.size + 1) 8 hP ha hc W0 hB0 (by omega) hc1) (fun h k => ⟨h.1.trans k.1, h.2.trans k.2⟩)
    (fun W l o o' hl h ho hw => ⟨belowK_b (w := W0) (by omega) W l o o' hl h ho hw, KT.grown (grownBy_putObj' W l o') (fun r e => by cases e; exact ⟨o, h, ho⟩)⟩)
    (Below.refl _ _) (fun _ => rfl) (FmI w) (fun _ _ _ => False)
    (fun s X Y row hs hg hr => ⟨bld_kept hs.1 (cells_grown hg (fun r e => (hr r e).2)), ownFrom_below (β := Unit) (Nat.le_refl _) (by omega) () X Y row hs.2 hg hr⟩)
    (fun _ _ _ _ _ hs _ _ => hs) hI0
    (fun x a' W => ∃ Bx, w.heap.size < Bx ∧ W.heap[Bx]? = some (.cells #[.int .i64 x.1.1, .int .i64 0, .string x.1.2.1, .string x.1.2.2.1, .bool x.1.2.2.2] 28 (0, 0)) ∧ a' = { tmps := #[.slice A l.length c, undef, .string ⟨#[]⟩, .pointer (some ⟨w.heap.size, 0, none⟩), .pointer (some ⟨Bx, 0, none⟩), .slice A l.length c, .func (.func 72) #[] #[.pointer (some ⟨w.heap.size + 1, 0, none⟩)], tkV x.1, undef, undef, undef, undef], defers := [] })
    (fun x a' _ X Y row hs hg hr => by obtain ⟨Bx, h1, h2, h3⟩ := hs; exact ⟨Bx, h1, cells_grown hg (fun r e => (hr r e).2) _ _ _ _ h2, h3⟩)
    ?assign ?body ?done ?stop
  case assign =>
    rintro l2 pre ⟨x, hx⟩ W K hI hK
    dsimp only [tkV] at hK ⊢
    replace hI := Aside0.mk hI
    replace hK := Aside0.mk hK
    gi_wp2
    exact hK.out _ _ ((KeepsOthers.alloc _ _).from _) ⟨(Below.refl _ W).alloc hI.out.2.size _, KT.alloc _ _⟩ ⟨hI.out.1.alloc _, below_alloc hI.out.2 _⟩ ⟨W.heap.size, bld_lt hI.out.1, blk_new _ _, rfl⟩
  case body =>
    rintro l2 pre ⟨x, hx⟩ a' W hl _ hI ⟨Bx, hlt, hbx, rfl⟩ hpre
    have hx0 := (blk_cell hbx 0).trans rfl
    have z0 : W.cell? ⟨Bx, 0, none⟩ = some (.int .i64 x.1) := (blk_cell hbx 0).trans rfl
    have z1 : W.cell? ⟨Bx, 1, none⟩ = some (.int .i64 0) := (blk_cell hbx 1).trans rfl
    have z2 : W.cell? ⟨Bx, 2, none⟩ = some (.string x.2.1) := (blk_cell hbx 2).trans rfl
    have z3 : W.cell? ⟨Bx, 3, none⟩ = some (.string x.2.2.1) := (blk_cell hbx 3).trans rfl
    have z4 : W.cell? ⟨Bx, 4, none⟩ = some (.bool x.2.2.2) := (blk_cell hbx 4).trans rfl
    have hlen : (Lib.byteCells (fmtB (pre.map (·.1)))).length + (fmtT x).size ≤ 140737488355328 := by
      have h1 := fmtB_len pre
      have h2 := hx.2.2
      rw [Lib.byteCells_length]
      omega
    replace hI := Aside0.mk hI
    replace hx := Aside0.mk hx
    replace hlen := Aside0.mk hlen
    clear hpre hbx hx0
    dsimp only [tkV]
    gi_wp2_with fail
    refine ⟨trivial, ?_⟩
    refine (CallsIn.inRound l2 (callsIn_wide.2 (lex_Format_any x.1 0 x.2.1 x.2.2.1 x.2.2.2 W hx.out.1 hx.out.2.1))).mono ?_
    rintro e W1 ⟨rfl, hb1⟩
    have hI1 : Aside0 (Lib.IsBuilderF 89 5 w.heap.size w.heap.size (Lib.byteCells (fmtB (pre.map (·.1)))) W1) := ⟨bld_kept hI.out.1 (fun k cs t fr h => blk_below h hb1)⟩
    have hW1 : Aside0 (Below w.heap.size W W1) := ⟨hb1.mono hI.out.2.size⟩
    have hkk : Aside0 (KT W W1 ∧ KeepsFrom W0.heap.size W W1) := ⟨KT.below hb1, ⟨hb1.size, fun k o _ hk _ => blk_below hk hb1⟩⟩
    clear hb1
    gi_wp2_with fail
    refine ⟨trivial, ?_⟩
    refine (CallsIn.inRound l2 (callsIn_wide.2 (wb_WriteString w.heap.size w.heap.size _ (fmtT x) W1 hI1.out hlen.out (Nat.le_trans hI.out.2.size hW1.out.size)))).mono ?_
    rintro e W2 ⟨rfl, hbd, hb2, hok⟩
    have hbb : ∃ cs fr, W1.heap[w.heap.size]? = some (.cells cs 89 fr) := by
      rcases hI1.out with ⟨_, v, h, _⟩ | ⟨_, v, h, _⟩ <;> exact ⟨_, _, h⟩
    have hbd2 : Aside0 (Lib.IsBuilderF 89 5 w.heap.size w.heap.size (Lib.byteCells (fmtB ((pre ++ [(⟨x, hx.out⟩ : TkO)]).map (·.1)))) W2) := ⟨by
      rw [List.map_append, List.map_cons, List.map_nil, fmtB_snoc, Lib.byteCells_append, ← Lib.strCells_eq]
      exact .inr hbd⟩
    have hK2 : Aside0 (KT W W2 ∧ KeepsFrom W0.heap.size W W2) := ⟨hkk.out.1.trans ⟨hb2.size, fun k cs fr h => hok k _ h (fun e => by
        obtain ⟨cs', fr', h'⟩ := hbb
        cases e
        rw [h] at h'; cases h') (fun c fz e => by cases e)⟩, hkk.out.2.trans ⟨hb2.size, fun k o _ h ho => hok k o h (fun e => by
        obtain ⟨cs', fr', h'⟩ := hbb
        cases e
        rw [h] at h'; cases h'; cases ho) (fun c fz e => by subst e; cases ho)⟩⟩
    have hW2 : Aside0 (Below w.heap.size W W2) := ⟨hW1.out.trans hb2⟩
    clear hok hbd hb2 hbb
    gi_wp2
    exact ⟨hK2.out.2, ⟨hW2.out, hK2.out.1⟩, hbd2.out, hI.out.2.trans hW2.out⟩
  case done =>
    rintro D ys W hD hys hI hK
    replace hI := Aside0.mk hI
    replace hys := Aside0.mk hys
    have hKD := Aside0.mk hK
    gi_wp2_with fail
    refine ⟨trivial, ?_⟩
    refine (callsIn_wide.2 (Tryd.Builder_String_any_k w.heap.size w.heap.size _ W hI.out.1 hI.out.2.size)).mono ?_
    rintro e W2 ⟨rfl, hbd, hb2, hok⟩
    have hK2 : W2.heap[D]? = some (.deferred (some [])) := hok D _ hKD.out (fun e => by cases e; omega) (fun c fz e => by cases e)
    have hf : fmtB (ys.map (·.1)) = fmtB (toksL l) := by rw [hys.out]
    have hB2 := Aside0.mk (hI.out.2.trans hb2)
    clear hok hbd hb2 hK hKD hys
    rw [hf]
    clear hf
    gi_wp2
    refine ⟨by simp, .inl ⟨_, _, rfl, run_takeDeferred hK2, ?_⟩⟩
    exact ⟨_, results_tmp rfl _ _ _, rfl, hB2.out.trans (belowK_b (w := w) (Nat.le_refl _) W2 D _ _ (by omega) hK2 rfl rfl)⟩
  case stop =>
    rintro D c pre W _ _ h _
    exact h.elim
theorem printer_Format.calls (A0 : Option Addr) (c0 : Nat) (l0 : List S39) (r : ByteArray) (w : World) (hr0 : Kd.C k39 w A0 l0.length l0) (hc0 : l0.length ≤ c0) (h : printer_Format.f l0 = some r) :
    Calls Tryd.prog 33 #[.slice A0 l0.length c0] w fun e w' => e = .returned (.string r) ∧ Below w.heap.size w w' := by
  unfold printer_Format.f at h
  split at h
  case isFalse => cases h
  case isTrue hg =>
    cases h
    exact callsIn_wide.1 (printer_Format.in_ A0 c0 l0 w hr0 hc0 hg.1 hg.2)
end Go.Proofs.YtgdpojleejdfaaaDoor.Px
