import Derived.Test.YtkpnfejfbmandaaDoorCU25
import Derived.Test.YtkpnfejfbmandaaDoorCU23
/- Contract of printer.Format. -/
namespace Go.Proofs.YtkpnfejfbmandaaDoor.Px
open Go.RowKit Go.Proofs.YtkpnfejfbmandaaDoorW.PrintWords Go.Proofs.YtkpnfejfbmandaaDoorW.PrintLast Go.Proofs.YtkpnfejfbmandaaDoorW.PrintMore
set_option linter.unusedVariables false
set_option linter.unusedSimpArgs false
attribute [local go_sem] Oper.semAt_some
theorem visit_all (P : VTk → Prop) (w0 : World) (l N : Nat) (J Jx : List VTk → World → Prop) (hJ : ∀ pre W o, J pre W → J pre (W.alloc o)) (hY : YOK P w0 l N J Jx) : ∀ (k : Nat) (a : List S78), SizeOf.sizeOf a < k → visit.Con P w0 l N J Jx a
  | 0, a, h => absurd h (Nat.not_lt_zero _)
  | k + 1, a, h => visit_step P w0 l N J Jx hJ hY a fun x hx => by
      have h1 := List.sizeOf_lt_of_mem hx
      exact ⟨visit_all P w0 l N J Jx hJ hY k x.f6 (by have := S78.size6 x; omega), visit_all P w0 l N J Jx hJ hY k x.f7 (by have := S78.size7 x; omega)⟩
def fmtT (x : VTk) : ByteArray := fmtTok x.1 x.2.1 x.2.2.1 x.2.2.2
def okTk (x : VTk) : Prop := x.2.1.size ≤ 1099511627776 ∧ x.2.2.1.size ≤ 1099511627776 ∧ (fmtT x).size ≤ 1048576
instance okTk.dec (x : VTk) : Decidable (okTk x) := by unfold okTk; infer_instance
abbrev TkO := {x : VTk // okTk x}
def fmtB (xs : List VTk) : List UInt8 := xs.flatMap fun x => (fmtT x).data.toList
theorem fmtB_snoc (xs : List VTk) (x : VTk) : fmtB (xs ++ [x]) = fmtB xs ++ (fmtT x).data.toList := by simp [fmtB]
theorem fmtB_len : ∀ (xs : List TkO), (fmtB (xs.map (·.1))).length ≤ xs.length * 1048576
  | [] => by simp [fmtB]
  | x :: xs => by
    have h1 := fmtB_len xs
    have h2 : (fmtT x.1).data.toList.length ≤ 1048576 := x.2.2.2
    have h3 : fmtB ((x :: xs).map (·.1)) = (fmtT x.1).data.toList ++ fmtB (xs.map (·.1)) := by simp [fmtB]
    rw [h3, List.length_append, List.length_cons]
    omega
theorem KT.grown {A B : World} {row : Option Nat} (hg : A.grownBy B row) (hr : ∀ r, row = some r → ∃ o : Obj, A.heap[r]? = some o ∧ o.isCells = false) : KT A B :=
  ⟨hg.size, fun k cs fr h => (hg.block k (Array.getElem?_eq_some_iff.1 h).1 (fun e => by
    obtain ⟨o, ho, hc⟩ := hr k e.symm
    rw [h] at ho; cases ho; cases hc)).trans h⟩
theorem KT.below {A B : World} (h : Below A.heap.size A B) : KT A B := ⟨h.size, fun k cs fr hk => blk_below hk h⟩
theorem bld_kept {T e : TypeId} {B b : Nat} {bs : List Value} {W W' : World} (h : Lib.IsBuilderF T e B b bs W) (hk : ∀ (k : Nat) (cs : Array Value) (t : TypeId) (fr : Nat × Nat), W.heap[k]? = some (.cells cs t fr) → W'.heap[k]? = some (.cells cs t fr)) :
    Lib.IsBuilderF T e B b bs W' := by
  have one : ∀ {p : Value}, Lib.BuilderAtF T e B b p bs W → Lib.BuilderAtF T e B b p bs W' := by
    rintro p ⟨hB, v, hb, hown, hne⟩
    refine ⟨hB, v, hk _ _ _ _ hb, ⟨hown.1, ?_⟩, hne⟩
    rcases hown.2 with hn | ⟨g, cap, cur, fz, hv, hbg, hg, rest⟩
    · exact .inl hn
    · exact .inr ⟨g, cap, cur, fz, hv, hbg, hk _ _ _ _ hg, rest⟩
  exact h.elim (fun x => .inl (one x)) (fun x => .inr (one x))
theorem bld_lt {T e : TypeId} {B b : Nat} {bs : List Value} {W : World} (h : Lib.IsBuilderF T e B b bs W) : b < W.heap.size := by
  rcases h with ⟨_, v, h, _⟩ | ⟨_, v, h, _⟩ <;> exact (Array.getElem?_eq_some_iff.1 h).1
theorem cells_grown {A B : World} {row : Option Nat} (hg : A.grownBy B row) (hr : ∀ r, row = some r → ∃ o : Obj, A.heap[r]? = some o ∧ o.isCells = false) (k : Nat) (cs : Array Value) (t : TypeId) (fr : Nat × Nat) (h : A.heap[k]? = some (.cells cs t fr)) : B.heap[k]? = some (.cells cs t fr) :=
  (hg.block k (Array.getElem?_eq_some_iff.1 h).1 (fun e => by
    obtain ⟨o, ho, hc⟩ := hr k e.symm
    rw [h] at ho; cases ho; cases hc)).trans h
def KpT (n₀ : Nat) (A B : World) : Prop := Below n₀ A B ∧ KT A B
set_option maxHeartbeats 1000000 in
theorem tokens1_in (we : World) (a : List S78) (A : Option Addr) (c Bt : Nat) (n l : Nat) (J Jx : List TkO → World → Prop) (hP : ∀ y ∈ toksL a, okTk y) (ha : Kd.C k78 we A a.length a) (hc : a.length ≤ c)
    (hJ : ∀ pre W o, J pre W → J pre (W.alloc o))
    (hY : ∀ pre x W, J pre W → pre.length < (toksL a).length → YieldAt Fence.wide (n - 1) Tryd.prog l #[tkV x.1] W fun e W' =>
      (e = .returned (.bool true) ∧ J (pre ++ [x]) W' ∧ KpT we.heap.size W W') ∨ (e = .returned (.bool false) ∧ Jx (pre ++ [x]) W'))
    (W : World) (hBW : Below we.heap.size we W) (hBt : W.cell? ⟨Bt, 0, none⟩ = some (.slice A a.length c)) (h0 : J [] W) :
    CallsIn Fence.wide n Tryd.prog 69 #[.func (.yield l) #[] #[], .pointer (some ⟨Bt, 0, none⟩)] W fun e W' => (∃ v, e = .returned v) ∧
      ((∃ ys, ys.map (·.1) = toksL a ∧ J ys W') ∨ (∃ pre, True ∧ Jx pre W')) := by
  have hv := visit_all okTk we l (toksL a).length (fun p W => ∃ q : List TkO, q.map (·.1) = p ∧ J q W) (fun _ W => ∃ q : List TkO, Jx q W)
    (fun p W o ⟨q, hq, hj⟩ => ⟨q, hq, hJ _ _ _ hj⟩)
    (fun m p x W hx hB ⟨q, hq, hj⟩ hl => by
      have hl' : q.length < (toksL a).length := by rw [← hq, List.length_map] at hl; exact hl
      refine YieldAt.mono (YieldAt.anyDepth rfl m (hY q ⟨x, hx⟩ W hj hl')) ?_
      rintro e W' (⟨he, hj', hb, hk⟩ | ⟨he, hx'⟩)
      · exact .inl ⟨he, ⟨q ++ [⟨x, hx⟩], by simp [hq], hj'⟩, hB.trans hb, hk⟩
      · exact .inr ⟨he, _, hx'⟩) _ a (Nat.lt_succ_self _) (n - 1) A c [] W hP ha hc hBW ⟨[], rfl, h0⟩ (by simp)
  replace hv := Aside0.mk hv
  clear hY hJ
  refine callsIn_of_wp Tryd.func69 rfl trivial ?_ rfl
  simp only [Tryd.ntmps69, List.size_toArray, List.length_cons, List.length_nil, Nat.reduceAdd, Nat.reduceSub, Array.replicate_succ, Array.replicate_zero, List.push_toArray, List.append_toArray, List.nil_append, List.cons_append]
  gi_wp2_with fail
  refine ⟨trivial, fun h => (by cases h), ?_⟩
  refine hv.out.mono ?_
  rintro e W1 (⟨rfl, ⟨q, hq, hj⟩, _⟩ | ⟨rfl, _, q, hx⟩)
  · gi_wp2
    go_end0
    exact ⟨⟨_, rfl⟩, .inl ⟨q, by simpa using hq, hj⟩⟩
  · gi_wp2
    go_end0
    exact ⟨⟨_, rfl⟩, .inr ⟨q, trivial, hx⟩⟩
theorem tokens_in (n : Nat) (A : Option Addr) (m c : Nat) (w : World) :
    CallsIn Fence.wide n Tryd.prog 44 #[.slice A m c] w fun e w' => e = .returned (.func (.func 69) #[] #[.pointer (some ⟨w.heap.size, 0, none⟩)]) ∧ w' = w.alloc (.cells #[.slice A m c] 23) := by
  refine callsIn_of_wp Tryd.func44 rfl trivial ?_ rfl
  simp only [Tryd.ntmps44, List.size_toArray, List.length_cons, List.length_nil, Nat.reduceAdd, Nat.reduceSub, Array.replicate_succ, Array.replicate_zero, List.push_toArray, List.append_toArray, List.nil_append, List.cons_append]
  gi_wp2
  go_ret
  exact ⟨rfl, rfl⟩
theorem tokens_stops (we : World) (a : List S78) (A : Option Addr) (c Bt : Nat) (n : Nat) (hP : ∀ y ∈ toksL a, okTk y) (ha : Kd.C k78 we A a.length a) (hc : a.length ≤ c) (w : World) (hBw : Below we.heap.size we w)
    (hBt : Bt < w.heap.size) (hcell : w.cell? ⟨Bt, 0, none⟩ = some (.slice A a.length c)) :
    SeqStopsK Fence.wide n Tryd.prog 69 #[.pointer (some ⟨Bt, 0, none⟩)] (fun x : TkO => #[tkV x.1]) (KpT we.heap.size) (fun ys => ys.map (·.1) = toksL a) (fun _ => True) (toksL a).length w :=
  fun l J Jx W hW hJ _ hY h0 => tokens1_in we a A c Bt n l J Jx hP ha hc (fun pre W o h => hJ pre W _ none h (World.grownBy_alloc W o none) (fun r e => by cases e)) hY W (hBw.trans (hW.mono hBw.size)) ((hW.cell (p := ⟨Bt, 0, none⟩) hBt).trans hcell) h0
def FmI (w : World) (pre : List TkO) (W : World) : Prop := Lib.IsBuilderF 56 5 w.heap.size w.heap.size (Lib.byteCells (fmtB (pre.map (·.1)))) W ∧ Below w.heap.size w W
def printer_Format.f (l : List S78) : Option ByteArray := if (∀ y ∈ toksL l, okTk y) ∧ (toksL l).length ≤ 1048576 then some ⟨(fmtB (toksL l)).toArray⟩ else none
set_option maxRecDepth 100000 in
set_option maxHeartbeats 4000000 in
theorem printer_Format.in_ (A : Option Addr) (c : Nat) (l : List S78) (w : World) (ha : Kd.C k78 w A l.length l) (hc : l.length ≤ c) (hP : ∀ y ∈ toksL l, okTk y) (hN : (toksL l).length ≤ 1048576) :
    CallsIn Fence.wide 9 Tryd.prog 22 #[.slice A l.length c] w fun e w' => e = .returned (.string ⟨(fmtB (toksL l)).toArray⟩) ∧ Below w.heap.size w w' := by
  refine callsIn_of_wp_marks Tryd.func22 rfl trivial ?_ rfl
  simp only [Tryd.ntmps22, List.size_toArray, List.length_cons, List.length_nil, Nat.reduceAdd, Nat.reduceSub, Array.replicate_succ, Array.replicate_zero, List.push_toArray, List.append_toArray, List.nil_append, List.cons_append]
  gi_wp2_with fail
  refine ⟨trivial, ?_⟩
  refine (tokens_in _ _ _ _ _).mono ?_
  rintro e w' ⟨rfl, rfl⟩
  gi_wp2
  obtain ⟨W0, hW0⟩ : ∃ W0, (w.alloc (.cells #[.pointer none, .slice none 0 0] 56)).alloc (.cells #[.slice A l.length c] 23) = W0 := ⟨_, rfl⟩
  have hB0 : Below w.heap.size w W0 := by rw [← hW0]; exact below_alloc (below_alloc (Below.refl _ _) _) _
  have hsz : W0.heap.size = w.heap.size + 2 := by rw [← hW0]; simp
  have hb0 : W0.heap[w.heap.size]? = some (.cells #[.pointer none, .slice none 0 0] 56 (0, 0)) := by rw [← hW0]; exact blk_alloc (blk_new _ _) _
  have hc1 : W0.cell? ⟨w.heap.size + 1, 0, none⟩ = some (.slice A l.length c) := by
    have h := blk_cell (blk_new (w.alloc (.cells #[.pointer none, .slice none 0 0] 56)) (.cells #[.slice A l.length c] 23)) 0
    rw [World.size_alloc, hW0] at h
    exact h
  have hI0 : FmI w [] W0 := ⟨.inl ⟨Nat.le_refl _, .slice none 0 0, hb0, ⟨rfl, .inl ⟨rfl, rfl⟩⟩, by simp [Value.ownBlock]⟩, hB0⟩
  try simp only [World.size_alloc]
  rw [hW0]
  clear hb0 hW0
  refine wpIn_rangeFunc_ownH rfl (by decide) (gf := 69) (lb := #[.pointer (some ⟨w.heap.size + 1, 0, none⟩)]) rfl trivial (enters_of Tryd.func69 (by kernel_rfl) rfl)
    (tokens_stops w l A c (w.heap.size + 1) 8 hP ha hc W0 hB0 (by omega) hc1) (fun h k => ⟨h.1.trans k.1, h.2.trans k.2⟩)
    (fun W l o o' hl h ho hw => ⟨belowK_b (w := W0) (by omega) W l o o' hl h ho hw, KT.grown (grownBy_putObj' W l o') (fun r e => by cases e; exact ⟨o, h, ho⟩)⟩)
    (Below.refl _ _) (fun _ => rfl) (FmI w) (fun _ _ _ => False)
    (fun s X Y row hs hg hr => ⟨bld_kept hs.1 (cells_grown hg (fun r e => (hr r e).2)), ownFrom_below (β := Unit) (Nat.le_refl _) (by omega) () X Y row hs.2 hg hr⟩)
    (fun _ _ _ _ _ hs _ _ => hs) hI0
    (fun x a' W => ∃ Bx, w.heap.size < Bx ∧ W.heap[Bx]? = some (.cells #[.int .i64 x.1.1, .int .i64 0, .string x.1.2.1, .string x.1.2.2.1, .bool x.1.2.2.2] 76 (0, 0)) ∧ a' = { tmps := #[.slice A l.length c, undef, .string ⟨#[]⟩, .pointer (some ⟨w.heap.size, 0, none⟩), .pointer (some ⟨Bx, 0, none⟩), .slice A l.length c, .func (.func 69) #[] #[.pointer (some ⟨w.heap.size + 1, 0, none⟩)], tkV x.1, undef, undef, undef, undef], defers := [] })
    (fun x a' _ X Y row hs hg hr => by obtain ⟨Bx, h1, h2, h3⟩ := hs; exact ⟨Bx, h1, cells_grown hg (fun r e => (hr r e).2) _ _ _ _ h2, h3⟩)
    ?assign ?body ?done ?stop
  case assign =>
    rintro l2 pre ⟨x, hx⟩ W K hI hK
    dsimp only [tkV] at hK ⊢
    replace hI := Aside0.mk hI
    replace hK := Aside0.mk hK
    gi_wp2
    exact hK.out _ _ ((KeepsOthers.alloc _ _).from _) ⟨(Below.refl _ W).alloc hI.out.2.size _, KT.alloc _ _⟩ ⟨hI.out.1.alloc _, below_alloc hI.out.2 _⟩ ⟨W.heap.size, bld_lt hI.out.1, blk_new _ _, rfl⟩
  case body =>
    rintro l2 pre ⟨x, hx⟩ a' W hl _ hI ⟨Bx, hlt, hbx, rfl⟩ hpre
    have hx0 := (blk_cell hbx 0).trans rfl
    have z0 : W.cell? ⟨Bx, 0, none⟩ = some (.int .i64 x.1) := (blk_cell hbx 0).trans rfl
    have z1 : W.cell? ⟨Bx, 1, none⟩ = some (.int .i64 0) := (blk_cell hbx 1).trans rfl
    have z2 : W.cell? ⟨Bx, 2, none⟩ = some (.string x.2.1) := (blk_cell hbx 2).trans rfl
    have z3 : W.cell? ⟨Bx, 3, none⟩ = some (.string x.2.2.1) := (blk_cell hbx 3).trans rfl
    have z4 : W.cell? ⟨Bx, 4, none⟩ = some (.bool x.2.2.2) := (blk_cell hbx 4).trans rfl
    have hlen : (Lib.byteCells (fmtB (pre.map (·.1)))).length + (fmtT x).size ≤ 140737488355328 := by
      have h1 := fmtB_len pre
      have h2 := hx.2.2
      rw [Lib.byteCells_length]
      omega
    replace hI := Aside0.mk hI
    replace hx := Aside0.mk hx
    replace hlen := Aside0.mk hlen
    clear hpre hbx hx0
    dsimp only [tkV]
    gi_wp2_with fail
    refine ⟨trivial, ?_⟩
    refine (CallsIn.inRound l2 (callsIn_wide.2 (lex_Format_any x.1 0 x.2.1 x.2.2.1 x.2.2.2 W hx.out.1 hx.out.2.1))).mono ?_
    rintro e W1 ⟨rfl, hb1⟩
    have hI1 : Aside0 (Lib.IsBuilderF 56 5 w.heap.size w.heap.size (Lib.byteCells (fmtB (pre.map (·.1)))) W1) := ⟨bld_kept hI.out.1 (fun k cs t fr h => blk_below h hb1)⟩
    have hW1 : Aside0 (Below w.heap.size W W1) := ⟨hb1.mono hI.out.2.size⟩
    have hkk : Aside0 (KT W W1 ∧ KeepsFrom W0.heap.size W W1) := ⟨KT.below hb1, ⟨hb1.size, fun k o _ hk _ => blk_below hk hb1⟩⟩
    clear hb1
    gi_wp2_with fail
    refine ⟨trivial, ?_⟩
    refine (CallsIn.inRound l2 (callsIn_wide.2 (wb_WriteString w.heap.size w.heap.size _ (fmtT x) W1 hI1.out hlen.out (Nat.le_trans hI.out.2.size hW1.out.size)))).mono ?_
    rintro e W2 ⟨rfl, hbd, hb2, hok⟩
    have hbb : ∃ cs fr, W1.heap[w.heap.size]? = some (.cells cs 56 fr) := by
      rcases hI1.out with ⟨_, v, h, _⟩ | ⟨_, v, h, _⟩ <;> exact ⟨_, _, h⟩
    have hbd2 : Aside0 (Lib.IsBuilderF 56 5 w.heap.size w.heap.size (Lib.byteCells (fmtB ((pre ++ [(⟨x, hx.out⟩ : TkO)]).map (·.1)))) W2) := ⟨by
      rw [List.map_append, List.map_cons, List.map_nil, fmtB_snoc, Lib.byteCells_append, ← Lib.strCells_eq]
      exact .inr hbd⟩
    have hK2 : Aside0 (KT W W2 ∧ KeepsFrom W0.heap.size W W2) := ⟨hkk.out.1.trans ⟨hb2.size, fun k cs fr h => hok k _ h (fun e => by
        obtain ⟨cs', fr', h'⟩ := hbb
        cases e
        rw [h] at h'; cases h') (fun c fz e => by cases e)⟩, hkk.out.2.trans ⟨hb2.size, fun k o _ h ho => hok k o h (fun e => by
        obtain ⟨cs', fr', h'⟩ := hbb
        cases e
        rw [h] at h'; cases h'; cases ho) (fun c fz e => by subst e; cases ho)⟩⟩
    have hW2 : Aside0 (Below w.heap.size W W2) := ⟨hW1.out.trans hb2⟩
    clear hok hbd hb2 hbb
    gi_wp2
    exact ⟨hK2.out.2, ⟨hW2.out, hK2.out.1⟩, hbd2.out, hI.out.2.trans hW2.out⟩
  case done =>
    rintro D ys W hD hys hI hK
    replace hI := Aside0.mk hI
    replace hys := Aside0.mk hys
    have hKD := Aside0.mk hK
    gi_wp2_with fail
    refine ⟨trivial, ?_⟩
    refine (callsIn_wide.2 (Tryd.Builder_String_any_k w.heap.size w.heap.size _ W hI.out.1 hI.out.2.size)).mono ?_
    rintro e W2 ⟨rfl, hbd, hb2, hok⟩
    have hK2 : W2.heap[D]? = some (.deferred (some [])) := hok D _ hKD.out (fun e => by cases e; omega) (fun c fz e => by cases e)
    have hf : fmtB (ys.map (·.1)) = fmtB (toksL l) := by rw [hys.out]
    have hB2 := Aside0.mk (hI.out.2.trans hb2)
    clear hok hbd hb2 hK hKD hys
    rw [hf]
    clear hf
    gi_wp2
    refine ⟨by simp, .inl ⟨_, _, rfl, run_takeDeferred hK2, ?_⟩⟩
    exact ⟨_, results_tmp rfl _ _ _, rfl, hB2.out.trans (belowK_b (w := w) (Nat.le_refl _) W2 D _ _ (by omega) hK2 rfl rfl)⟩
  case stop =>
    rintro D c pre W _ _ h _
    exact h.elim
theorem printer_Format.calls (A0 : Option Addr) (c0 : Nat) (l0 : List S78) (r : ByteArray) (w : World) (hr0 : Kd.C k78 w A0 l0.length l0) (hc0 : l0.length ≤ c0) (h : printer_Format.f l0 = some r) :
    Calls Tryd.prog 22 #[.slice A0 l0.length c0] w fun e w' => e = .returned (.string r) ∧ Below w.heap.size w w' := by
  unfold printer_Format.f at h
  split at h
  case isFalse => cases h
  case isTrue hg =>
    cases h
    exact callsIn_wide.1 (printer_Format.in_ A0 c0 l0 w hr0 hc0 hg.1 hg.2)
end Go.Proofs.YtkpnfejfbmandaaDoor.Px

/- Plain laws: the parser at tokens that differ in their offsets, and at lists of tokens one after the other. -/
namespace Go.Proofs.YtkpnfejfbmandaaDoor.Px
open Go.RowKit Go.Proofs.YtkpnfejfbmandaaDoorW.PrintWords Go.Proofs.YtkpnfejfbmandaaDoorW.PrintLast Go.Proofs.YtkpnfejfbmandaaDoorW.PrintMore
set_option linter.unusedVariables false
set_option linter.unusedSimpArgs false
/-- A token without its offset. -/
def keyT (t : S76) : Int × ByteArray × ByteArray × Bool := (t.f0, t.f2, t.f3, t.f4)
theorem keyT_eq {t t1 : S76} (h : keyT t1 = keyT t) : t1.f0 = t.f0 ∧ t1.f2 = t.f2 ∧ t1.f3 = t.f3 ∧ t1.f4 = t.f4 := by
  unfold keyT at h; simpa using h
theorem key_cons {l1 : List S76} {t : S76} {r : List S76} (h : l1.map keyT = (t :: r).map keyT) : ∃ t1 r1, l1 = t1 :: r1 ∧ keyT t1 = keyT t ∧ r1.map keyT = r.map keyT := by
  cases l1 with
  | nil => simp at h
  | cons t1 r1 => rw [List.map_cons, List.map_cons] at h; injection h with a b; exact ⟨t1, r1, rfl, a, b⟩
theorem key_nil {l1 : List S76} (h : l1.map keyT = ([] : List S76).map keyT) : l1 = [] := by simpa using h
theorem key_len {l1 l : List S76} (h : l1.map keyT = l.map keyT) : l1.length = l.length := by simpa using congrArg List.length h
theorem hdR_of {x y : S78} (h0 : x.f0 = y.f0) (h2 : x.f2 = y.f2) (h3 : x.f3 = y.f3) (h4 : x.f4 = y.f4) (h5 : x.f5 = y.f5) : hdR false x y = true := by
  unfold hdR; simp [h0, h2, h3, h4, h5]
abbrev SmL (k : Nat) : Prop := ∀ (l : List S76) (n d : Int) (out o : List S78) (l' : List S76) (n' : Int), 0 ≤ n → plist k l n d out = some (.ok (o, l', n')) →
  ∀ (l1 : List S76) (m : Int) (out1 : List S78), l1.map keyT = l.map keyT → 0 ≤ m → m + (n' - n) ≤ 4096 → out1.length + l1.length < 100000 →
    ∃ ys zs l1', o = out ++ ys ∧ plist k l1 m d out1 = some (.ok (out1 ++ zs, l1', m + (n' - n))) ∧ l1'.map keyT = l'.map keyT ∧ eqRL false zs ys = true ∧ n ≤ n' ∧ l'.length ≤ l.length
abbrev SmN (k : Nat) : Prop := ∀ (t : S76) (r : List S76) (n d : Int) (x : S78) (l' : List S76) (n' : Int), 0 ≤ n → pnode k t r n d = some (.ok (x, l', n')) →
  ∀ (t1 : S76) (r1 : List S76) (m : Int), keyT t1 = keyT t → r1.map keyT = r.map keyT → 0 ≤ m → m + (n' - n) ≤ 4096 → r1.length < 99999 →
    ∃ x1 l1', pnode k t1 r1 m d = some (.ok (x1, l1', m + (n' - n))) ∧ l1'.map keyT = l'.map keyT ∧ eqRN false x1 x = true ∧ n < n' ∧ l'.length ≤ r.length
theorem same_key : ∀ k, SmL k ∧ SmN k
  | 0 => ⟨fun l n d out o l' n' _ h => by simp [plist] at h, fun t r n d x l' n' _ h => by simp [pnode] at h⟩
  | k + 1 => by
    obtain ⟨ihl, ihn⟩ := same_key k
    refine ⟨?_, ?_⟩
    · intro l n d out o l' n' hn h l1 m out1 hk hm hle hlen
      cases l with
      | nil =>
        rw [plist_nil] at h; cases h
        obtain rfl := key_nil hk
        exact ⟨[], [], [], by simp, by rw [plist_nil]; simp, rfl, by simp [eqRL], Int.le_refl _, Nat.le_refl _⟩
      | cons t r =>
        obtain ⟨t1, r1, rfl, kt, kr⟩ := key_cons hk
        obtain ⟨k0, k2, k3, k4⟩ := keyT_eq kt
        rw [plist_cons] at h ⊢
        by_cases h1 : out.length < 100000
        case neg => rw [if_neg h1] at h; cases h
        rw [List.length_cons] at hlen
        rw [if_pos h1] at h
        rw [if_pos (by omega), k0]
        by_cases h2 : t.f0 = 7 ∨ t.f0 = 8
        · rw [if_pos h2] at h ⊢; cases h
          exact ⟨[], [], t1 :: r1, by simp, by simp, hk, by simp [eqRL], Int.le_refl _, Nat.le_refl _⟩
        rw [if_neg h2] at h ⊢
        cases hp : pnode k t r n d with
        | none => rw [hp] at h; cases h
        | some x =>
          rw [hp] at h
          cases x with
          | error e => cases h
          | ok q =>
            obtain ⟨x, r', n1⟩ := q
            dsimp only at h
            have hmono : n < n1 ∧ r'.length ≤ r.length := by
              have := ihn t r n d x r' n1 hn hp t r 0 rfl rfl (Int.le_refl _)
              have hc := (parse_cnt k).2 _ _ _ _ _ _ _ hp
              have hx := nN_eq x
              exact ⟨by omega, by
                have := (parse_tot_len k).2 _ _ _ _ _ _ _ hp; exact this⟩
            have hmono2 : n1 ≤ n' := by
              have hc := (parse_cnt k).1 _ _ _ _ _ _ _ h
              obtain ⟨ys, rfl⟩ := plist_out k _ _ _ _ _ _ _ h
              rw [nL_append (out ++ [x]) ys] at hc
              omega
            have hkl := key_len kr
            obtain ⟨x1, l1, a1, a2, a3, _, _⟩ := ihn t r n d x r' n1 hn hp t1 r1 m kt kr hm (by omega) (by omega)
            rw [a1]
            obtain ⟨ys, zs, l1', b1, b2, b3, b4, b5, b6⟩ := ihl r' n1 d (out ++ [x]) o l' n' (by omega) h l1 (m + (n1 - n)) (out1 ++ [x1]) a2 (by omega) (by omega) (by have := key_len a2; rw [List.length_append, List.length_singleton]; omega)
            refine ⟨x :: ys, x1 :: zs, l1', by rw [b1]; simp, ?_, b3, ?_, by omega, by rw [List.length_cons]; omega⟩
            · dsimp only
              rw [b2, List.append_assoc, show m + (n1 - n) + (n' - n1) = m + (n' - n) by omega]; rfl
            · rw [eqRL_cons, a3, b4]; rfl
    · intro t r n d x l' n' hn h t1 r1 m kt kr hm hle hlen
      obtain ⟨k0, k2, k3, k4⟩ := keyT_eq kt
      have hkl := key_len kr
      have hcn := (parse_cnt (k + 1)).2 _ _ _ _ _ _ _ h
      have hx := nN_eq x
      have hll := (parse_tot_len (k + 1)).2 _ _ _ _ _ _ _ h
      rw [pnode_eq] at h ⊢
      by_cases h1 : 0 ≤ n ∧ 0 ≤ d
      case neg => rw [if_neg h1] at h; cases h
      rw [if_pos h1] at h
      rw [if_pos ⟨hm, h1.2⟩, k0]
      by_cases h2 : t.f0 = 6 ∧ d > 0
      · rw [if_pos h2] at h; cases h
      rw [if_neg h2] at h ⊢
      by_cases h3 : opK t.f0 ∧ d ≥ 32
      · rw [if_pos h3] at h; cases h
      rw [if_neg h3] at h ⊢
      by_cases h4 : n ≥ 4096
      · rw [if_pos h4] at h; cases h
      rw [if_neg h4] at h
      rw [if_neg (by omega)]
      by_cases h5 : opK t.f0
      case neg =>
        rw [if_neg h5] at h ⊢; cases h
        refine ⟨_, r1, by rw [show m + (n + 1 - n) = m + 1 by omega], kr, ?_, by omega, Nat.le_refl _⟩
        rw [eqRN_eq, Bool.and_eq_true, Bool.and_eq_true]
        exact ⟨hdR_of rfl k2 k3 k4 rfl, by simp [eqRL], by simp [eqRL]⟩
      rw [if_pos h5] at h ⊢
      have hend : ∀ (hh : Bool) (body els body1 els1 : List S78) (l1 l2 : List S76) (n1 m1 : Int), endB t hh body els l1 n1 = .ok (x, l', n') → l2.map keyT = l1.map keyT → eqRL false body1 body = true → eqRL false els1 els = true →
          ∃ x1 l1', endB t1 hh body1 els1 l2 m1 = .ok (x1, l1', m1) ∧ l1'.map keyT = l'.map keyT ∧ eqRN false x1 x = true ∧ n' = n1 := by
        intro hh body els body1 els1 l1 l2 n1 m1 e hk he1 he2
        cases l1 with
        | nil => cases e
        | cons t3 r4 =>
          obtain ⟨t2, r2, rfl, kt2, kr2⟩ := key_cons hk
          have k8 := (keyT_eq kt2).1
          simp only [endB] at e ⊢
          by_cases h8 : t3.f0 = 8
          · rw [if_pos h8] at e; cases e
            refine ⟨_, r2, by rw [if_pos (k8.trans h8)], kr2, ?_, rfl⟩
            rw [eqRN_eq, Bool.and_eq_true, Bool.and_eq_true]
            exact ⟨hdR_of k0 k2 k3 k4 rfl, he1, he2⟩
          · rw [if_neg h8] at e; cases e
      unfold pblk at h ⊢
      cases hp : plist k r (n + 1) (d + 1) [] with
      | none => rw [hp] at h; cases h
      | some q =>
        rw [hp] at h
        cases q with
        | error e => cases h
        | ok q =>
          obtain ⟨body, l1, n1⟩ := q
          have c1 := (parse_cnt k).1 _ _ _ _ _ _ _ hp
          simp only [nL] at c1
          cases l1 with
          | nil => cases h
          | cons u r2 =>
            dsimp only at h
            have up : n1 ≤ n' := by
              by_cases h7 : u.f0 = 7
              · rw [if_pos h7] at h
                by_cases h8 : t.f0 = 2
                case neg => rw [if_neg h8] at h; cases h
                rw [if_pos h8] at h
                cases hp2 : plist k r2 n1 (d + 1) [] with
                | none => rw [hp2] at h; cases h
                | some q =>
                  rw [hp2] at h
                  cases q with
                  | error e => cases h
                  | ok q =>
                    obtain ⟨els, r3, n3⟩ := q
                    have c2 := (parse_cnt k).1 _ _ _ _ _ _ _ hp2
                    simp only [nL] at c2
                    obtain ⟨_, _, _, _, _, e⟩ := hend true body els body els r3 r3 n3 n3 (Option.some.inj h) rfl (eqRL_refl false _ _ (Nat.lt_succ_self _)) (eqRL_refl false _ _ (Nat.lt_succ_self _))
                    omega
              · rw [if_neg h7] at h
                obtain ⟨_, _, _, _, _, e⟩ := hend false body [] body [] (u :: r2) (u :: r2) n1 n1 (Option.some.inj h) rfl (eqRL_refl false _ _ (Nat.lt_succ_self _)) (by simp [eqRL])
                omega
            obtain ⟨ys, zs, l1', b1, b2, b3, b4, b5, b6⟩ := ihl r (n + 1) (d + 1) [] body (u :: r2) n1 (by omega) hp r1 (m + 1) [] kr (by omega) (by omega) (by simp only [List.length_nil]; omega)
            rw [List.nil_append] at b1
            subst b1
            obtain ⟨u1, w1, rfl, ku, kw⟩ := key_cons b3
            rw [List.nil_append] at b2
            rw [b2]
            dsimp only
            rw [(keyT_eq ku).1]
            by_cases h7 : u.f0 = 7
            · rw [if_pos h7] at h ⊢
              by_cases h8 : t.f0 = 2
              case neg => rw [if_neg h8] at h; cases h
              rw [if_pos h8] at h
              rw [if_pos (k0.trans h8)]
              cases hp2 : plist k r2 n1 (d + 1) [] with
              | none => rw [hp2] at h; cases h
              | some q =>
                rw [hp2] at h
                cases q with
                | error e => cases h
                | ok q =>
                  obtain ⟨els, r3, n3⟩ := q
                  have c2 := (parse_cnt k).1 _ _ _ _ _ _ _ hp2
                  simp only [nL] at c2
                  have e3 : n' = n3 := by
                    obtain ⟨_, _, _, _, _, e⟩ := hend true body els body els r3 r3 n3 n3 (Option.some.inj h) rfl (eqRL_refl false _ _ (Nat.lt_succ_self _)) (eqRL_refl false _ _ (Nat.lt_succ_self _))
                    exact e
                  rw [List.length_cons] at b6
                  obtain ⟨ys2, zs2, l2', d1, d2, d3, d4, d5, d6⟩ := ihl r2 n1 (d + 1) [] els r3 n3 (by omega) hp2 w1 (m + 1 + (n1 - (n + 1))) [] kw (by omega) (by omega) (by have := key_len kw; simp only [List.length_nil]; omega)
                  rw [List.nil_append] at d1
                  subst d1
                  rw [List.nil_append] at d2
                  rw [d2]
                  dsimp only
                  obtain ⟨x1, l3', f1, f2, f3, _⟩ := hend true body els zs zs2 r3 l2' n3 (m + 1 + (n1 - (n + 1)) + (n3 - n1)) (Option.some.inj h) d3 b4 d4
                  refine ⟨x1, l3', ?_, f2, f3, by omega, hll⟩
                  rw [f1, show m + 1 + (n1 - (n + 1)) + (n3 - n1) = m + (n' - n) by omega]
            · rw [if_neg h7] at h ⊢
              obtain ⟨x1, l3', f1, f2, f3, e⟩ := hend false body [] zs [] (u :: r2) (u1 :: w1) n1 (m + 1 + (n1 - (n + 1))) (Option.some.inj h) b3 b4 (by simp [eqRL])
              refine ⟨x1, l3', ?_, f2, f3, by omega, hll⟩
              rw [f1, show m + 1 + (n1 - (n + 1)) = m + (n' - n) by omega]
where
  plist_out : ∀ (k : Nat) (l : List S76) (n d : Int) (out o : List S78) (l' : List S76) (n' : Int), plist k l n d out = some (.ok (o, l', n')) → ∃ ys, o = out ++ ys
    | 0, l, n, d, out, o, l', n', h => by simp [plist] at h
    | k + 1, l, n, d, out, o, l', n', h => by
      cases l with
      | nil => rw [plist_nil] at h; cases h; exact ⟨[], by simp⟩
      | cons t r =>
        rw [plist_cons] at h
        by_cases h1 : out.length < 100000
        case neg => rw [if_neg h1] at h; cases h
        rw [if_pos h1] at h
        by_cases h2 : t.f0 = 7 ∨ t.f0 = 8
        · rw [if_pos h2] at h; cases h; exact ⟨[], by simp⟩
        rw [if_neg h2] at h
        cases hp : pnode k t r n d with
        | none => rw [hp] at h; cases h
        | some x =>
          rw [hp] at h
          cases x with
          | error e => cases h
          | ok q =>
            obtain ⟨x, r', n1⟩ := q
            obtain ⟨ys, e⟩ := plist_out k _ _ _ _ _ _ _ h
            exact ⟨x :: ys, by rw [e]; simp⟩
  parse_tot_len : ∀ k, (∀ (l : List S76) (n d : Int) (out o : List S78) (l' : List S76) (n' : Int), plist k l n d out = some (.ok (o, l', n')) → l'.length ≤ l.length) ∧
      (∀ (t : S76) (r : List S76) (n d : Int) (x : S78) (l' : List S76) (n' : Int), pnode k t r n d = some (.ok (x, l', n')) → l'.length ≤ r.length)
    | 0 => ⟨fun l n d out o l' n' h => by simp [plist] at h, fun t r n d x l' n' h => by simp [pnode] at h⟩
    | k + 1 => by
      obtain ⟨ihl, ihn⟩ := parse_tot_len k
      refine ⟨?_, ?_⟩
      · intro l n d out o l' n' h
        cases l with
        | nil => rw [plist_nil] at h; cases h; exact Nat.le_refl _
        | cons t r =>
          rw [plist_cons] at h
          by_cases h1 : out.length < 100000
          case neg => rw [if_neg h1] at h; cases h
          rw [if_pos h1] at h
          by_cases h2 : t.f0 = 7 ∨ t.f0 = 8
          · rw [if_pos h2] at h; cases h; exact Nat.le_refl _
          rw [if_neg h2] at h
          cases hp : pnode k t r n d with
          | none => rw [hp] at h; cases h
          | some x =>
            rw [hp] at h
            cases x with
            | error e => cases h
            | ok q =>
              obtain ⟨x, r', n1⟩ := q
              have a := ihn _ _ _ _ _ _ _ hp
              have b := ihl _ _ _ _ _ _ _ h
              rw [List.length_cons]; omega
      · intro t r n d x l' n' h
        rw [pnode_eq] at h
        by_cases h1 : 0 ≤ n ∧ 0 ≤ d
        case neg => rw [if_neg h1] at h; cases h
        rw [if_pos h1] at h
        by_cases h2 : t.f0 = 6 ∧ d > 0
        · rw [if_pos h2] at h; cases h
        rw [if_neg h2] at h
        by_cases h3 : opK t.f0 ∧ d ≥ 32
        · rw [if_pos h3] at h; cases h
        rw [if_neg h3] at h
        by_cases h4 : n ≥ 4096
        · rw [if_pos h4] at h; cases h
        rw [if_neg h4] at h
        by_cases h5 : opK t.f0
        case neg => rw [if_neg h5] at h; cases h; exact Nat.le_refl _
        rw [if_pos h5] at h
        unfold pblk at h
        cases hp : plist k r (n + 1) (d + 1) [] with
        | none => rw [hp] at h; cases h
        | some q =>
          rw [hp] at h
          cases q with
          | error e => cases h
          | ok q =>
            obtain ⟨body, l1, n1⟩ := q
            have s1 := ihl _ _ _ _ _ _ _ hp
            cases l1 with
            | nil => cases h
            | cons t1 r2 =>
              rw [List.length_cons] at s1
              dsimp only at h
              by_cases h7 : t1.f0 = 7
              · rw [if_pos h7] at h
                by_cases h8 : t.f0 = 2
                case neg => rw [if_neg h8] at h; cases h
                rw [if_pos h8] at h
                cases hp2 : plist k r2 n1 (d + 1) [] with
                | none => rw [hp2] at h; cases h
                | some q =>
                  rw [hp2] at h
                  cases q with
                  | error e => cases h
                  | ok q =>
                    obtain ⟨els, r3, n3⟩ := q
                    have s2 := ihl _ _ _ _ _ _ _ hp2
                    have := (endB_ok (Option.some.inj h)).1
                    omega
              · rw [if_neg h7] at h
                have := (endB_ok (Option.some.inj h)).1
                rw [List.length_cons] at this
                omega
end Go.Proofs.YtkpnfejfbmandaaDoor.Px

/- Parsing the canonical source yields an equal template (the plain law). -/
namespace Go.Proofs.YtkpnfejfbmandaaDoor.Px
open Go.RowKit Go.Proofs.YtkpnfejfbmandaaDoorW.PrintWords Go.Proofs.YtkpnfejfbmandaaDoorW.PrintLast
set_option linter.unusedVariables false
set_option linter.unusedSimpArgs false
theorem dirE_is {k : Int} {s p : List UInt8} {h : Bool} {t : T4} (e : dirE k s p h = (0, t)) : t = (k, s, p, h) := by
  unfold dirE at e
  split at e
  · simpa using e.symm
  · simp at e
theorem dirP_bare {k : Int} {s : List UInt8} {ws : List (List UInt8)} {t : T4} (e : dirP k s ws = (0, t)) : t.1 = k ∧ t.2.1 = s ∧ (mostOf k = 0 → t = (k, s, [], false)) := by
  unfold dirP at e
  split at e
  · simp at e
  · rename_i hlen
    match ws, e with
    | [], e => have := dirE_is e; subst this; exact ⟨rfl, rfl, fun _ => rfl⟩
    | w :: r, e =>
      dsimp only at e
      split at e
      · have := dirE_is e; subst this
        refine ⟨rfl, rfl, fun h => ?_⟩
        rw [List.length_cons] at hlen
        omega
      · simp at e
theorem dirK_bare {k : Int} {ws : List (List UInt8)} {t : T4} (e : dirK k ws = (0, t)) (hn : named k = false) : t.1 = k ∧ t.2.1 = [] ∧ (mostOf k = 0 → t = (k, [], [], false)) := by
  unfold dirK at e
  rw [if_neg (by simp [hn])] at e
  exact dirP_bare e
theorem dirK_kind {k : Int} {ws : List (List UInt8)} {t : T4} (e : dirK k ws = (0, t)) : t.1 = k := by
  unfold dirK at e
  split at e
  · match ws, e with
    | [], e => simp at e
    | w :: r, e =>
      dsimp only at e
      split at e
      · simp at e
      · exact (dirP_bare e).1
  · exact (dirP_bare e).1
theorem dirF_bare {ws : List (List UInt8)} {t : T4} (e : dirF ws = (0, t)) (h : t.1 = 7 ∨ t.1 = 8) : t = (t.1, [], [], false) := by
  have hK : ∀ k ws, dirK k ws = (0, t) → t = (t.1, [], [], false) := fun k ws e => by
    have hk := dirK_kind e
    have h' : k = 7 ∨ k = 8 := by rw [← hk]; exact h
    have := dirK_bare e (by rcases h' with rfl | rfl <;> decide)
    rw [hk]
    exact this.2.2 (by rcases h' with rfl | rfl <;> decide)
  unfold dirF at e
  match ws, e with
  | [], e => simp at e
  | w :: r, e =>
    dsimp only at e
    split at e
    · exact hK _ _ e
    · split at e
      · exact hK _ _ e
      · simp at e
/-- Else and End bear nothing. -/
def GoodT (t : S76) : Prop := (t.f0 = 7 → keyT t = tkElse) ∧ (t.f0 = 8 → keyT t = tkEnd)
theorem canT_good : ∀ (L : List T5), CanT L → ∀ t ∈ L.map tokS, GoodT t
  | [], _, t, ht => by cases ht
  | x :: xs, h, t, ht => by
    rcases List.mem_cons.1 ht with rfl | ht
    · by_cases h0 : x.2.1 = 0
      · exact ⟨fun h7 => by have h7' : x.2.1 = 7 := h7; omega, fun h7 => by have h7' : x.2.1 = 8 := h7; omega⟩
      · have hd := h.1
        rw [if_neg h0] at hd
        have hb := fun hh => dirF_bare hd.dir hh
        obtain ⟨p, k, s, q, b⟩ := x
        refine ⟨fun h7 => ?_, fun h7 => ?_⟩
        · have h7' : k = 7 := h7
          have := hb (.inl h7')
          simp only [Prod.mk.injEq] at this
          obtain ⟨_, rfl, rfl, rfl⟩ := this
          subst h7'
          rfl
        · have h7' : k = 8 := h7
          have := hb (.inr h7')
          simp only [Prod.mk.injEq] at this
          obtain ⟨_, rfl, rfl, rfl⟩ := this
          subst h7'
          rfl
    · exact canT_good xs h.2 t ht
abbrev TkL (k : Nat) : Prop := ∀ (l : List S76) (n d : Int) (out o : List S78) (l' : List S76) (n' : Int), (∀ t ∈ l, GoodT t) → plist k l n d out = some (.ok (o, l', n')) → ∃ pre, l = pre ++ l' ∧ toksL o = toksL out ++ pre.map keyT
abbrev TkN (k : Nat) : Prop := ∀ (t : S76) (r : List S76) (n d : Int) (x : S78) (l' : List S76) (n' : Int), (∀ u ∈ t :: r, GoodT u) → pnode k t r n d = some (.ok (x, l', n')) → ∃ pre, t :: r = pre ++ l' ∧ toksN x = pre.map keyT
theorem toks_of : ∀ k, TkL k ∧ TkN k
  | 0 => ⟨fun l n d out o l' n' _ h => by simp [plist] at h, fun t r n d x l' n' _ h => by simp [pnode] at h⟩
  | k + 1 => by
    obtain ⟨ihl, ihn⟩ := toks_of k
    refine ⟨?_, ?_⟩
    · intro l n d out o l' n' hg h
      cases l with
      | nil => rw [plist_nil] at h; cases h; exact ⟨[], rfl, by simp⟩
      | cons t r =>
        rw [plist_cons] at h
        by_cases h1 : out.length < 100000
        case neg => rw [if_neg h1] at h; cases h
        rw [if_pos h1] at h
        by_cases h2 : t.f0 = 7 ∨ t.f0 = 8
        · rw [if_pos h2] at h; cases h; exact ⟨[], rfl, by simp⟩
        rw [if_neg h2] at h
        cases hp : pnode k t r n d with
        | none => rw [hp] at h; cases h
        | some x =>
          rw [hp] at h
          cases x with
          | error e => cases h
          | ok q =>
            obtain ⟨x, r', n1⟩ := q
            obtain ⟨p1, e1, t1⟩ := ihn _ _ _ _ _ _ _ hg hp
            obtain ⟨p2, e2, t2⟩ := ihl _ _ _ _ _ _ _ (fun u hu => hg u (by rw [e1]; exact List.mem_append_right _ hu)) h
            refine ⟨p1 ++ p2, by rw [e1, e2, List.append_assoc], ?_⟩
            rw [t2, toksL_append, toksL_cons, t1]
            simp [toksL]
    · intro t r n d x l' n' hg h
      rw [pnode_eq] at h
      by_cases h1 : 0 ≤ n ∧ 0 ≤ d
      case neg => rw [if_neg h1] at h; cases h
      rw [if_pos h1] at h
      by_cases h2 : t.f0 = 6 ∧ d > 0
      · rw [if_pos h2] at h; cases h
      rw [if_neg h2] at h
      by_cases h3 : opK t.f0 ∧ d ≥ 32
      · rw [if_pos h3] at h; cases h
      rw [if_neg h3] at h
      by_cases h4 : n ≥ 4096
      · rw [if_pos h4] at h; cases h
      rw [if_neg h4] at h
      by_cases h5 : opK t.f0
      case neg =>
        rw [if_neg h5] at h; cases h
        refine ⟨[t], rfl, ?_⟩
        rw [toksN_eq]; dsimp only
        rw [if_neg (show ¬ (t.f0 = 2 ∨ t.f0 = 3 ∨ t.f0 = 6) from h5)]; rfl
      rw [if_pos h5] at h
      have hgr : ∀ u ∈ r, GoodT u := fun u hu => hg u (List.mem_cons_of_mem _ hu)
      have hend : ∀ (hh : Bool) (body els : List S78) (l1 : List S76) (n1 : Int), endB t hh body els l1 n1 = .ok (x, l', n') → ∃ t3, l1 = t3 :: l' ∧ t3.f0 = 8 ∧ x = ⟨t.f0, t.f1, t.f2, t.f3, t.f4, hh, body, els⟩ := by
        intro hh body els l1 n1 e
        cases l1 with
        | nil => cases e
        | cons t3 r4 =>
          simp only [endB] at e
          by_cases h8 : t3.f0 = 8
          · rw [if_pos h8] at e; cases e; exact ⟨t3, rfl, h8, rfl⟩
          · rw [if_neg h8] at e; cases e
      unfold pblk at h
      cases hp : plist k r (n + 1) (d + 1) [] with
      | none => rw [hp] at h; cases h
      | some q =>
        rw [hp] at h
        cases q with
        | error e => cases h
        | ok q =>
          obtain ⟨body, l1, n1⟩ := q
          obtain ⟨p1, e1, t1⟩ := ihl _ _ _ _ _ _ _ hgr hp
          simp only [toksL, List.nil_append] at t1
          cases l1 with
          | nil => cases h
          | cons u r2 =>
            dsimp only at h
            by_cases h7 : u.f0 = 7
            · rw [if_pos h7] at h
              by_cases h8 : t.f0 = 2
              case neg => rw [if_neg h8] at h; cases h
              rw [if_pos h8] at h
              have hu := (hgr u (by rw [e1]; simp)).1 h7
              cases hp2 : plist k r2 n1 (d + 1) [] with
              | none => rw [hp2] at h; cases h
              | some q =>
                rw [hp2] at h
                cases q with
                | error e => cases h
                | ok q =>
                  obtain ⟨els, r3, n3⟩ := q
                  obtain ⟨p2, e2, t2⟩ := ihl _ _ _ _ _ _ _ (fun v hv => hgr v (by rw [e1]; simp [hv])) hp2
                  simp only [toksL, List.nil_append] at t2
                  obtain ⟨t3, e3, k3, e4⟩ := hend _ _ _ _ _ (Option.some.inj h)
                  have h3 := (hgr t3 (by rw [e1, e2, e3]; simp)).2 k3
                  refine ⟨t :: (p1 ++ u :: (p2 ++ [t3])), by rw [e1, e2, e3]; simp, ?_⟩
                  rw [e4, toksN_eq]; dsimp only
                  rw [if_pos (show t.f0 = 2 ∨ t.f0 = 3 ∨ t.f0 = 6 from h5), t1, t2, if_pos rfl, ← hu, ← h3]
                  simp [keyT]
            · rw [if_neg h7] at h
              obtain ⟨t3, e3, k3, e4⟩ := hend _ _ _ _ _ (Option.some.inj h)
              have h3 := (hgr t3 (by rw [e1, e3]; simp)).2 k3
              refine ⟨t :: (p1 ++ [t3]), by rw [e1, e3]; simp, ?_⟩
              rw [e4, toksN_eq]; dsimp only
              rw [if_pos (show t.f0 = 2 ∨ t.f0 = 3 ∨ t.f0 = 6 from h5), t1, ← h3]
              simp [keyT]
theorem good_key {l l1 : List S76} (h : ∀ t ∈ l, GoodT t) (e : l1.map keyT = l.map keyT) : ∀ t ∈ l1, GoodT t := fun t ht => by
  have hm : keyT t ∈ l.map keyT := by rw [← e]; exact List.mem_map_of_mem ht
  obtain ⟨u, hu, hk⟩ := List.mem_map.1 hm
  have k0 : u.f0 = t.f0 := (keyT_eq hk).1
  obtain ⟨a, b⟩ := h u hu
  exact ⟨fun h7 => hk ▸ a (k0.trans h7), fun h8 => hk ▸ b (k0.trans h8)⟩
theorem fmt_key (x : T5) : (fmtT (keyT (tokS x))).data.toList = fmtD x.2 := by
  have := fmtTok_is x.2
  unfold fmtT keyT tokS
  dsimp only
  rw [this]
theorem fmtB_keys : ∀ (L : List T5), fmtB ((L.map tokS).map keyT) = fmtAll L
  | [] => rfl
  | x :: xs => by
    have h1 := fmtB_keys xs
    unfold fmtB fmtAll at h1 ⊢
    rw [List.map_cons, List.map_cons, List.flatMap_cons, List.flatMap_cons, fmt_key, h1]
theorem fmtD_small {L : List T5} {x : T5} (h : x ∈ L) : (fmtD x.2).length ≤ (fmtAll L).length := by
  induction L with
  | nil => cases h
  | cons y ys ih =>
    unfold fmtAll at ih ⊢
    rw [List.flatMap_cons, List.length_append]
    rcases List.mem_cons.1 h with rfl | h
    · omega
    · have := ih h; omega
theorem format_keys {L : List T5} {l : List S78} (ht : toksL l = (L.map tokS).map keyT) (hl : L.length ≤ 5000) (hb : (fmtAll L).length ≤ 5000) (hs : ∀ x ∈ L, x.2.2.1.length ≤ 5000 ∧ x.2.2.2.1.length ≤ 5000) :
    printer_Format.f l = some ⟨(fmtAll L).toArray⟩ := by
  unfold printer_Format.f
  rw [ht, fmtB_keys, if_pos]
  refine ⟨fun y hy => ?_, by simp only [List.length_map]; omega⟩
  rw [List.map_map] at hy
  obtain ⟨x, hx, rfl⟩ := List.mem_map.1 hy
  have h1 := hs x hx
  have h2 := fmtD_small hx
  have h3 : (fmtT (keyT (tokS x))).size = (fmtD x.2).length := by rw [← data_length, fmt_key]
  refine ⟨?_, ?_, ?_⟩
  · show (⟨x.2.2.1.toArray⟩ : ByteArray).size ≤ _
    rw [← data_length]; simp; omega
  · show (⟨x.2.2.2.1.toArray⟩ : ByteArray).size ≤ _
    rw [← data_length]; simp; omega
  · show (fmtT (keyT (tokS x))).size ≤ _
    omega
theorem trip (L : List T5) (l : List S78) (K : Nat) (n' : Int) (hc : CanT L) (hl : L.length ≤ 5000) (hb : (fmtAll L).length ≤ 5000) (hs : ∀ x ∈ L, x.2.2.1.length ≤ 5000 ∧ x.2.2.2.1.length ≤ 5000)
    (hp : plist K (L.map tokS) 0 0 [] = some (.ok (l, [], n'))) :
    ∃ (F : ByteArray) (l2 : List S78), printer_Format.f l = some F ∧ Ev (fun k => parse_Parse.f k F) (l2, (F.size : Int), 0) ∧ eqRL false l l2 = true ∧ printer_Format.f l2 = some F ∧ nL l ≤ 4096 := by
  have hg := canT_good L hc
  obtain ⟨pre, e1, t1⟩ := (toks_of K).1 _ _ _ _ _ _ _ hg hp
  rw [List.append_nil] at e1
  subst e1
  simp only [toksL, List.nil_append] at t1
  have hcn := (parse_cnt K).1 _ _ _ _ _ _ _ hp
  simp only [nL] at hcn
  have hn4 := hcn.2 (by decide)
  have hkey : ((retime 0 L).map tokS).map keyT = (L.map tokS).map keyT := by
    have e : ∀ M : List T5, (M.map tokS).map keyT = (M.map (·.2)).map fun d => (d.1, (⟨d.2.1.toArray⟩ : ByteArray), (⟨d.2.2.1.toArray⟩ : ByteArray), d.2.2.2) := fun M => by
      rw [List.map_map, List.map_map]; rfl
    rw [e, e, retime_parts]
  have hrl := relex _ L (Nat.le_refl _) hc 0
  have hFd : (⟨(fmtAll L).toArray⟩ : ByteArray).data.toList = fmtAll L := by simp
  have hFs : (⟨(fmtAll L).toArray⟩ : ByteArray).size = (fmtAll L).length := by rw [← data_length, hFd]
  have hlex : lexF ⟨(fmtAll L).toArray⟩ = ((retime 0 L).map tokS, ((⟨(fmtAll L).toArray⟩ : ByteArray).size : Int), 0) := by
    rw [lexF_small (by omega), hFd, hrl]
    rfl
  obtain ⟨ys, zs, l1', b1, b2, b3, b4, _, _⟩ := (same_key K).1 _ _ _ _ _ _ _ (by decide) hp ((retime 0 L).map tokS) 0 [] hkey (by decide) (by omega) (by simp only [List.length_nil, List.length_map, retime_len]; omega)
  rw [List.nil_append] at b1
  subst b1
  obtain rfl := key_nil b3
  rw [List.nil_append] at b2
  obtain ⟨ys2, zs2, l2', d1, d2, d3, d4, _, _⟩ := (same_key K).1 _ _ _ _ _ _ _ (by decide) b2 (L.map tokS) 0 [] hkey.symm (by decide) (by omega) (by simp only [List.length_nil, List.length_map]; omega)
  rw [List.nil_append] at d1
  subst d1
  rw [List.nil_append, hp] at d2
  have hz : l = zs2 := by
    have := Option.some.inj d2
    simp only [Except.ok.injEq, Prod.mk.injEq] at this
    exact this.1
  subst hz
  obtain ⟨pre2, e2, t2⟩ := (toks_of K).1 _ _ _ _ _ _ _ (good_key hg hkey) b2
  rw [List.append_nil] at e2
  subst e2
  simp only [toksL, List.nil_append] at t2
  refine ⟨⟨(fmtAll L).toArray⟩, zs, format_keys t1 hl hb hs, ?_, d4, format_keys (t2.trans hkey) hl hb hs, by omega⟩
  obtain ⟨K2, h2⟩ := Ev.up (fun k => (parser.mono k).1 _ _ _ _) b2
  refine ⟨K2, fun k hk => ?_⟩
  have := h2 k hk
  dsimp only at this ⊢
  unfold parse_Parse.f
  rw [hlex]
  dsimp only
  rw [if_pos rfl, this]
  rfl
end Go.Proofs.YtkpnfejfbmandaaDoor.Px
