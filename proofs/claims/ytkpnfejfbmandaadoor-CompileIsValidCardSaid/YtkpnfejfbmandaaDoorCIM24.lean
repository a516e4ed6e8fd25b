import Derived.Test.YtkpnfejfbmandaaDoorCIM23
import Derived.Test.YtkpnfejfbmandaaDoorCIM22
import Derived.StillTailTactics
/- compile.Code: the walk. -/
namespace Go.Proofs.YtkpnfejfbmandaaDoor.Px
open Go.RowKit Go.Proofs.YtkpnfejfbmandaaDoorW.PrintWords Go.Proofs.YtkpnfejfbmandaaDoorW.PrintLast Go.Proofs.YtkpnfejfbmandaaDoorW.PrintMore
open Go.Maps Go.ChangeMaps Go.MapKept
set_option linter.unusedVariables false
set_option linter.unusedSimpArgs false
structure L2 (w0 : World) (g b1 b2 p : Nat) (l : List S78) (es : List Int) (vs : List Value) (R : KS) (i : Nat) (v : Value) (A : Option Addr) (c : Nat) (st : KS) (W : World) : Prop where
  s : CS w0 g b1 b2 p vs v st A c W
  eq : topS (l.drop i) (es.drop (prL (l.take i))) st = R
  lc : st.calls.length + nL (l.drop i) ≤ nL l
  len : st.code.length + 2 * nL (l.drop i) ≤ 2 * nL l
theorem esI_len {l : List S78} {es : List Int} {i : Nat} (hi : i < l.length) (hpr : prL l ≤ es.length) : esI l es i = (es.drop (prL (l.take i))).take (prN l[i]) ∧ (esI l es i).length = prN l[i] := by
  have hr : rd_T78 l (i : Int) = l[i] := by unfold rd_T78; simp [List.getD, hi]
  have ht := prL_take_succ l i hi
  have htl := prL_take_le l (i + 1)
  have e : esI l es i = (es.drop (prL (l.take i))).take (prN l[i]) := by unfold esI; rw [hr]
  exact ⟨e, by rw [e, List.length_take, List.length_drop]; omega⟩
theorem L2.same {w0 g b1 b2 p l es vs R i v A c st W W2} (h : L2 w0 g b1 b2 p l es vs R i v A c st W) (hi : i < l.length) (h6 : l[i].f0 = 6) (hs : CS w0 g b1 b2 p vs v st A c W2) : L2 w0 g b1 b2 p l es vs R (i + 1) v A c st W2 := by
  have hd : l.drop i = l[i] :: l.drop (i + 1) := List.drop_eq_getElem_cons hi
  have he := h.eq
  have h1 := h.lc
  have h2 := h.len
  rw [hd, topS, if_pos h6, List.drop_drop, ← prL_take_succ l i hi] at he
  rw [hd, nL_cons] at h1 h2
  exact ⟨hs, he, by omega, by omega⟩
theorem L2.next {w0 g b1 b2 p l es vs R i v A c st W W2 v2 A2 c2} (h : L2 w0 g b1 b2 p l es vs R i v A c st W) (hi : i < l.length) (hpr : prL l ≤ es.length) (h6 : l[i].f0 ≠ 6) (hs : CS w0 g b1 b2 p vs v2 (gN l[i] ⟨st.code, esI l es i, st.calls⟩) A2 c2 W2) : L2 w0 g b1 b2 p l es vs R (i + 1) v2 A2 c2 (gN l[i] ⟨st.code, esI l es i, st.calls⟩) W2 := by
  have hd : l.drop i = l[i] :: l.drop (i + 1) := List.drop_eq_getElem_cons hi
  have he := h.eq
  have h1 := h.lc
  have h2 := h.len
  rw [hd, topS, if_neg h6, List.drop_drop, ← prL_take_succ l i hi, ← (esI_len hi hpr).1] at he
  rw [hd, nL_cons] at h1 h2
  have h3 := gN_len l[i] ⟨st.code, esI l es i, st.calls⟩
  have h4 := gN_calls_len l[i] ⟨st.code, esI l es i, st.calls⟩
  dsimp only at h3 h4
  exact ⟨hs, he, by omega, by omega⟩
theorem KIn.moved {w0 g b1 b2 v code A c left W W3} (h : KIn w0 g b1 b2 v code A c left W) {k0 : Nat} {o : Obj} (ho : W.heap[k0]? = some o) (hno : ∀ cs t fz, o ≠ .cells cs t fz) (hb : w0.heap.size ≤ k0) (hg : W.grownBy W3 (some k0)) : KIn w0 g b1 b2 v code A c left W3 := by
  have hne : k0 ≠ g := by
    rintro rfl
    rw [h.blk] at ho
    exact hno _ _ _ (Option.some.inj ho).symm
  refine ⟨blk_grown h.blk hg (fun e => hne (by simpa using e.symm)), ?_, h.lf, h.le, h.bel.grown hg h.bel.size (fun k hk => by cases hk; exact hb), h.ge⟩
  refine Kd.R_mono (Kd.R_step (Kd.R_bound h.own) (fun k hk _ => hg.block k hk.2.2.1 ?_)) (fun k hk => hk.1)
  intro e
  obtain rfl : k = k0 := by simpa using e
  obtain ⟨q, _, cells, hc⟩ := hk.2.2.2
  rw [ho] at hc
  exact hno _ _ _ (Option.some.inj hc)
theorem CS.moved {w0 g b1 b2 p vs v st A c W W3} (h : CS w0 g b1 b2 p vs v st A c W) {k0 : Nat} {o : Obj} (ho : W.heap[k0]? = some o) (hno : ∀ cs t fz, o ≠ .cells cs t fz) (hb : w0.heap.size ≤ k0) (h1 : k0 ≠ b1) (h2 : k0 ≠ b2) (hg : W.grownBy W3 (some k0)) : CS w0 g b1 b2 p vs v st A c W3 := by
  refine ⟨h.k.moved ho hno hb hg, h.m.move (hg.block _ h.m.lt (by simpa using h2.symm)), h.e.move (hg.block _ h.e.lt (by simpa using h1.symm)), blk_grown h.pb hg ?_⟩
  intro e
  have e1 : p = k0 := by simpa using e
  rw [← e1, h.pb] at ho
  exact hno _ _ _ (Option.some.inj ho).symm
theorem CS.grown0 {w0 g b1 b2 p vs v st A c W W3} (h : CS w0 g b1 b2 p vs v st A c W) (hg : W.grownBy W3 none) : CS w0 g b1 b2 p vs v st A c W3 := h.below ((Below.refl W.heap.size W).grown hg (Nat.le_refl _) (by simp))
structure L3 (w0 : World) (g b1 b2 p : Nat) (l : List S78) (es : List Int) (vs : List Value) (R : KS × List (ByteArray × Int)) (ba i : Nat) (v : Value) (A : Option Addr) (c : Nat) (st : KS) (ad : List (ByteArray × Int)) (n : Nat) (D : DataW Unit) (W : World) : Prop where
  s : CS w0 g b1 b2 p vs v st A c W
  eq : defS (l.drop i) (es.drop (prL (l.take i))) st ad = R
  lc : st.calls.length + nL (l.drop i) ≤ 2 * nL l
  len : st.code.length + 2 * nL (l.drop i) ≤ 4 * nL l + 1
  ma : MpA W ba ad n D
  adl : ad.length ≤ i
  abd : ∀ q ∈ ad, 0 ≤ q.2 ∧ q.2 ≤ 1000000
theorem L3.same {w0 g b1 b2 p l es vs R ba i v A c st ad n D W W2} (h : L3 w0 g b1 b2 p l es vs R ba i v A c st ad n D W) (hi : i < l.length) (h6 : l[i].f0 ≠ 6) (hs : CS w0 g b1 b2 p vs v st A c W2) (hm : MpA W2 ba ad n D) : L3 w0 g b1 b2 p l es vs R ba (i + 1) v A c st ad n D W2 := by
  have hd : l.drop i = l[i] :: l.drop (i + 1) := List.drop_eq_getElem_cons hi
  have he := h.eq
  have h1 := h.lc
  have h2 := h.len
  have h3 := h.adl
  rw [hd, defS, if_neg h6, List.drop_drop, ← prL_take_succ l i hi] at he
  rw [hd, nL_cons] at h1 h2
  exact ⟨hs, he, by omega, by omega, hm, by omega, h.abd⟩
theorem L3.next {w0 g b1 b2 p l es vs R ba i v A c st ad n D W W2 v2 A2 c2 n2 D2} (h : L3 w0 g b1 b2 p l es vs R ba i v A c st ad n D W) (hi : i < l.length) (hpr : prL l ≤ es.length) (hn : nL l ≤ 100000) (h6 : l[i].f0 = 6)
    (hs : CS w0 g b1 b2 p vs v2 ((gL l[i].f6 ⟨st.code, esI l es i, st.calls⟩).emit ⟨7, e0, e0, false, 0, 0⟩) A2 c2 W2) (hm : MpA W2 ba (ad ++ [(l[i].f2, (st.code.length : Int))]) n2 D2) :
    L3 w0 g b1 b2 p l es vs R ba (i + 1) v2 A2 c2 ((gL l[i].f6 ⟨st.code, esI l es i, st.calls⟩).emit ⟨7, e0, e0, false, 0, 0⟩) (ad ++ [(l[i].f2, (st.code.length : Int))]) n2 D2 W2 := by
  have hd : l.drop i = l[i] :: l.drop (i + 1) := List.drop_eq_getElem_cons hi
  have he := h.eq
  have h1 := h.lc
  have h2 := h.len
  have h7 := h.adl
  rw [hd, defS, if_pos h6, List.drop_drop, ← prL_take_succ l i hi, ← (esI_len hi hpr).1] at he
  rw [hd, nL_cons, nN_eq] at h1 h2
  have h3 := gL_len l[i].f6 ⟨st.code, esI l es i, st.calls⟩
  have h4 := gL_calls_len l[i].f6 ⟨st.code, esI l es i, st.calls⟩
  dsimp only at h3 h4
  refine ⟨hs, he, ?_, ?_, hm, ?_, ?_⟩
  · simp only [KS.emit]; omega
  · simp only [KS.emit, List.length_append, List.length_singleton]; omega
  · rw [List.length_append, List.length_singleton]; omega
  · intro q hq
    rcases List.mem_append.1 hq with hq | hq
    · exact h.abd q hq
    · rw [List.mem_singleton] at hq
      subst hq
      dsimp only
      omega
def doneP (D : DataW Unit) (left : Lit → Bool) (j : Nat) : Bool := Go.Maps.has D (.int .i64 (j : Int)) && !left (.int .i64 (j : Int))
structure L4 (w0 : World) (g b1 b2 p ba rb : Nat) (st : KS) (ad : List (ByteArray × Int)) (na : Nat) (Da : DataW Unit) (v : Value) (A : Option Addr) (c : Nat) (left : Lit → Bool) (cnt : Nat) (W : World) : Prop where
  k : KIn w0 g b1 b2 v (patW st.code st.calls ad (doneP (mpD st.calls) left)) A c st.left W
  rg : W.ranges Tryd.prog 3 (plainElem Tryd.prog 9) b2 rb st.calls.length (mpD st.calls) left cnt
  sub : ∀ kl, left kl = true → Go.Maps.has (mpD st.calls) kl = true
  ma : MpA W ba ad na Da
  pb : W.heap[p]? = some (.cells #[.pointer (some ⟨g, 0, none⟩)] 118 (0, 0))
theorem toList_data_inj {a b : ByteArray} (h : a.data.toList = b.data.toList) : a = b := by
  obtain ⟨⟨a⟩⟩ := a; obtain ⟨⟨b⟩⟩ := b
  simp at h; rw [h]
set_option maxRecDepth 100000 in
theorem plain9_inv {v : Value} {y : DataW Unit × List MemPlace} (h : plainElem Tryd.prog 9 v = some y) : ∃ c, v = .string c ∧ y = (.lit (.string c.data.toList), []) := by
  unfold plainElem at h
  rw [Tryd.underlying9] at h
  cases v <;> simp at h
  exact ⟨_, rfl, h.2.symm⟩
theorem L4.came {w0 g b1 b2 p ba rb st ad na Da v A c left cnt W} (h : L4 w0 g b1 b2 p ba rb st ad na Da v A c left cnt W) (hk : KOk2 st) {x : Int} {s : ByteArray} (hl : left (.int .i64 x) = true) (hat : ∀ zd, (mpD st.calls).atKey (.int .i64 x) zd = .lit (.string s.data.toList)) :
    ∃ j : Nat, x = (j : Int) ∧ nmA st.calls j = some s ∧ j < st.code.length ∧ s.size ≤ 65536 := by
  obtain ⟨h1, h2⟩ := mpD_at st.calls x
  have h3 := h.sub _ hl
  rw [h1] at h3
  obtain ⟨t, ht⟩ := Option.isSome_iff_exists.1 h3
  have h4 := h2 t ht (.lit (.bool false))
  rw [hat] at h4
  have h5 : s = t := toList_data_inj (by simpa using h4)
  subst h5
  obtain ⟨j, e1, e2, e3⟩ := hk _ (nmA_mem ht)
  dsimp only at e1 e3
  subst e1
  exact ⟨j, rfl, ht, e2, e3⟩
theorem patW_step {st : KS} {ad : List (ByteArray × Int)} {left : Lit → Bool} {j : Nat} {s : ByteArray} (hs : nmA st.calls j = some s) :
    setTo (patW st.code st.calls ad (doneP (mpD st.calls) left)) j (adOf ad s) = patW st.code st.calls ad (doneP (mpD st.calls) fun z => left z && !z.sameKey (.int .i64 (j : Int))) := by
  rw [patW_set hs]
  refine patW_congr fun i => ?_
  unfold doneP
  by_cases e : i = j
  · subst e
    rw [(mpD_at st.calls i).1, hs]
    simp [Lit.sameKey]
  · have e' : ¬ (i : Int) = j := by omega
    simp [Lit.sameKey, e, e']
theorem patW_end {st : KS} {ad : List (ByteArray × Int)} {left : Lit → Bool} (h : ∀ kl, left kl = false) : patW st.code st.calls ad (doneP (mpD st.calls) left) = patW st.code st.calls ad fun i => (nmA st.calls i).isSome :=
  patW_congr fun i => by unfold doneP; rw [(mpD_at st.calls i).1, h]; simp
theorem patW_start {st : KS} {ad : List (ByteArray × Int)} : patW st.code st.calls ad (doneP (mpD st.calls) (Go.Maps.has (mpD st.calls))) = st.code := by
  refine (patW_congr (Q := fun _ => false) fun i => ?_).trans (patW_none _ _ _)
  unfold doneP
  cases Go.Maps.has (mpD st.calls) (.int .i64 (i : Int)) <;> rfl
theorem L4.moved {w0 g b1 b2 p ba rb st ad na Da v A c left cnt left2 cnt2 W W2} (h : L4 w0 g b1 b2 p ba rb st ad na Da v A c left cnt W) (hr0 : w0.heap.size ≤ rb) (hrb : rb ≠ ba) (hg : W.grownBy W2 (some rb)) (hrg : W2.ranges Tryd.prog 3 (plainElem Tryd.prog 9) b2 rb st.calls.length (mpD st.calls) left2 cnt2) :
    KIn w0 g b1 b2 v (patW st.code st.calls ad (doneP (mpD st.calls) left)) A c st.left W2 ∧ MpA W2 ba ad na Da ∧ W2.heap[p]? = some (.cells #[.pointer (some ⟨g, 0, none⟩)] 118 (0, 0)) := by
  obtain ⟨_, _, _, _, _, _, _, _, _, hit, _⟩ := h.rg
  refine ⟨h.k.moved hit (fun _ _ _ e => by cases e) hr0 hg, h.ma.move (hg.block _ h.ma.lt (by simpa using hrb.symm)), blk_grown h.pb hg ?_⟩
  intro e
  have e1 : p = rb := by simpa using e
  rw [← e1, h.pb] at hit
  cases hit
set_option maxRecDepth 100000 in
theorem inf3 : ∃ i, Tryd.prog.info? 3 = some i ∧ i.size = 1 := ⟨_, rfl, rfl⟩
theorem mapW_cell {w : World} {b : Nat} {es : Array MapEntry} {n : Nat} {a : Addr} (h : a.block ≠ b) : (mapW w b es n).cell? a = w.cell? a := by
  have e : (mapW w b es n).heap[a.block]? = w.heap[a.block]? := by
    have h' : b ≠ a.block := fun e => h e.symm
    simp [mapW, h']
  unfold World.cell?
  rw [e]
theorem start_cs (w0 : World) : CS w0 (w0.heap.size + 1 + 1) w0.heap.size (w0.heap.size + 1) (w0.heap.size + 1 + 1 + 1) [] (.slice none 0 0) ⟨[], [], []⟩ none 0
    ((((w0.alloc (.map #[] 0)).alloc (.map #[] 0)).alloc (.cells #[.slice none 0 0, .map (some w0.heap.size), .slice none 0 0, .map (some (w0.heap.size + 1))] 122)).alloc (.cells #[.pointer (some ⟨w0.heap.size + 1 + 1, 0, none⟩)] 118)) := by
  have e1 : (w0.alloc (.map #[] 0)).heap.size = w0.heap.size + 1 := World.size_alloc _ _
  have e2 : ((w0.alloc (.map #[] 0)).alloc (.map #[] 0)).heap.size = w0.heap.size + 1 + 1 := by rw [World.size_alloc, e1]
  have e3 : (((w0.alloc (.map #[] 0)).alloc (.map #[] 0)).alloc (.cells #[.slice none 0 0, .map (some w0.heap.size), .slice none 0 0, .map (some (w0.heap.size + 1))] 122)).heap.size = w0.heap.size + 1 + 1 + 1 := by rw [World.size_alloc, e2]
  refine ⟨⟨?_, Kd.R_nil _ _ _ _ _, ?_, Nat.le_refl _, ?_, by omega⟩, ?_, ?_, ?_⟩
  · have := blk_new ((w0.alloc (.map #[] 0)).alloc (.map #[] 0)) (.cells #[.slice none 0 0, .map (some w0.heap.size), .slice none 0 0, .map (some (w0.heap.size + 1))] 122)
    rw [e2] at this
    exact blk_alloc this _
  · exact ⟨rfl, by simp, fun h => absurd h (by simp)⟩
  · exact below_alloc (below_alloc (below_alloc (below_alloc (Below.refl _ _) _) _) _) _
  · have : MpC ((w0.alloc (.map #[] 0)).alloc (.map #[] 0)) (w0.heap.size + 1) [] := by
      have := World.ownsMap_made (H := Unit) (w0.alloc (.map #[] 0)) Tryd.prog 3 (plainElem Tryd.prog 9)
      rw [e1] at this
      exact this
    exact (this.alloc _).alloc _
  · exact (((EscB.start w0).alloc _).alloc _).alloc _
  · have := blk_new (((w0.alloc (.map #[] 0)).alloc (.map #[] 0)).alloc (.cells #[.slice none 0 0, .map (some w0.heap.size), .slice none 0 0, .map (some (w0.heap.size + 1))] 122)) (.cells #[.pointer (some ⟨w0.heap.size + 1 + 1, 0, none⟩)] 118)
    rw [e3] at this
    exact this
set_option maxHeartbeats 1000000 in
set_option maxRecDepth 100000 in
theorem code_any (l : List S78) (A : Option Addr) (c : Nat) (w : World) (hC : Kd.C k78 w A l.length l) (hc : l.length ≤ c) (hsm : smL l) (hlen : nL l ≤ 100000) (hpr : (inferF l).2.2 = 0 → prL l ≤ (inferF l).1.length) :
    Calls Tryd.prog 35 #[.slice A l.length c] w fun e w' => ∃ v, e = .returned (.tuple #[v, .int .i64 (codeF l).2.1, .int .i64 (codeF l).2.2]) ∧ Kd.R k40 40 w' w.heap.size (fun _ => True) v (codeF l).1 ∧ Below w.heap.size w w' := by
  obtain ⟨r, hr⟩ : ∃ r, r = codeF l := ⟨_, rfl⟩
  rw [← hr]
  unfold codeF at hr
  have hll : l.length ≤ 100000 := by have := nL_len l; omega
  have hchk := Aside0.mk (check_any l A c w hC hc hsm (by omega))
  have hinf := Aside0.mk (fun W (hB : Below w.heap.size w W) => infer_any l A c W (Kd.C_below hC hB) hc hsm (by omega))
  replace hr := Aside0.mk hr
  replace hC := Aside0.mk hC
  replace hsm := Aside0.mk hsm
  generalize hck : checkF l = ck at *
  obtain ⟨ca, ce⟩ := ck
  generalize hif : inferF l = nf at *
  obtain ⟨es, ia, ie⟩ := nf
  replace hck := Aside0.mk hck
  replace hif := Aside0.mk hif
  dsimp only at hpr
  replace hpr := Aside0.mk hpr
  by_cases hE : ce = 0
  case neg =>
    have hE' : (ce != 0) = true := by simp [hE]
    have hr2 := hr.out
    rw [if_neg hE] at hr2
    replace hr2 := Aside0.mk hr2
    replace hE := Aside0.mk hE
    clear hr
    go_enter Tryd.func35, Tryd.ntmps35
    go_wp2_with (go_at_call 16; refine hchk.out.mono ?_; rintro e w1 ⟨rfl, HB⟩; replace HB := Aside0.mk HB)
    go_ret3
    rw [hr2.out]
    exact ⟨_, rfl, Kd.R_nil _ _ _ _ _, HB.out⟩
  by_cases hE2 : ie = 0
  case neg =>
    have hE' : (ce != 0) = false := by simp [hE]
    have hE2' : (ie != 0) = true := by simp [hE2]
    have hr2 := hr.out
    rw [if_pos hE, if_neg hE2] at hr2
    replace hr2 := Aside0.mk hr2
    replace hE := Aside0.mk hE
    replace hE2 := Aside0.mk hE2
    clear hr
    go_enter Tryd.func35, Tryd.ntmps35
    go_wp2_with (first | (go_at_call 16; refine hchk.out.mono ?_; rintro e w1 ⟨rfl, HB⟩; replace HB := Aside0.mk HB) | (go_at_call 17; refine (hinf.out _ HB.out).mono ?_; rintro e w2 ⟨v2, rfl, HR, HB2⟩; replace HB2 := Aside0.mk (below_step HB.out HB2); clear HB HR))
    go_ret3
    rw [hr2.out]
    exact ⟨_, rfl, Kd.R_nil _ _ _ _ _, HB2.out⟩
  have hE' : (ce != 0) = false := by simp [hE]
  have hE2' : (ie != 0) = false := by simp [hE2]
  have hr2 := hr.out
  rw [if_pos hE, if_pos hE2] at hr2
  have hpr2 := hpr.out hE2
  replace hr2 := Aside0.mk hr2
  clear hr hpr
  replace hE := Aside0.mk hE
  replace hE2 := Aside0.mk hE2
  have hmm := @run_makeMap Tryd.prog
  go_enter Tryd.func35, Tryd.ntmps35
  go_wp2_with (first | (go_at_call 16; refine hchk.out.mono ?_; rintro e w1 ⟨rfl, HB⟩; replace HB := Aside0.mk HB) | (go_at_call 17; refine (hinf.out _ HB.out).mono ?_; rintro e w0 ⟨v2, rfl, HR, HB2⟩; obtain ⟨Ae, cE, rfl⟩ := Kd.R_slice HR; have hEs := Kd.R_reads' HR; have hCe := Aside0.mk hEs.2.2; have hle := hEs.2.1; replace HB2 := Aside0.mk (below_step HB.out HB2); clear HB HR hEs))
  have HS := start_cs w0
  generalize ((((w0.alloc (.map #[] 0)).alloc (.map #[] 0)).alloc (.cells #[.slice none 0 0, .map (some w0.heap.size), .slice none 0 0, .map (some (w0.heap.size + 1))] 122)).alloc (.cells #[.pointer (some ⟨w0.heap.size + 1 + 1, 0, none⟩)] 118)) = W0 at HS ⊢
  obtain ⟨b1, hb1⟩ : ∃ b1, b1 = w0.heap.size := ⟨_, rfl⟩
  generalize hp : w0.heap.size + 1 + 1 + 1 = p at HS ⊢
  generalize hg : w0.heap.size + 1 + 1 = g at HS ⊢
  generalize hb2 : w0.heap.size + 1 = b2 at HS ⊢
  rw [← hb1] at HS
  have hne : b1 ≠ b2 := by omega
  have hb1' : w0.heap.size ≤ b1 := by omega
  have hb2' : w0.heap.size ≤ b2 := by omega
  have hCw := Aside0.mk (Kd.C_below hC.out HB2.out)
  have H1 : L1 w0 g b1 b2 p l es 0 [] Ae cE W0 := ⟨HS, rfl, fun i h => absurd h (Nat.not_lt_zero _), by simpa [prL] using hCe.out, by simpa [prL] using hle⟩
  replace H1 := Aside0.mk H1
  clear HS hmm hchk hinf
  replace hp := Aside0.mk hp
  replace hg := Aside0.mk hg
  replace hb1 := Aside0.mk hb1
  replace hb2 := Aside0.mk hb2
  go_loopg [7, 47] l.length (fun kq v7 v47 wr => ∃ (i : Nat) (vs : List Value) (Ar : Option Addr) (cr : Nat), kq + i = l.length ∧ v47 = .int .i64 i ∧ v7 = .slice Ar (es.drop (prL (l.take i))).length cr ∧ L1 w0 g b1 b2 p l es i vs Ar cr wr)
  case atStart => exact ⟨0, [], Ae, cE, rfl, rfl, by simp [prL], H1.out⟩
  case round =>
    clear H1
    obtain ⟨i, vs, Ar, cr, hki, rfl, rfl, HR⟩ := hrel
    by_cases hlt2 : i < l.length
    · have hl : decide ((i : Int) < (l.length : Int)) = true := decide_eq_true (by omega)
      obtain ⟨ad, A6, c6, A7, c7, hA, x0, x1, x2, x3, x4, x5, x6, x7, l6, g6, l7, g7⟩ := at_T78 hCw.out (i : Int) (by omega) (by omega)
      have hrd : rd_T78 l (i : Int) = l[i] := by unfold rd_T78; simp [List.getD, hlt2]
      simp only [Int.toNat_natCast] at x0 x1 x2 x3 x4 x5 x6 x7
      rw [hrd] at x0 x1 x2 x3 x4 x5 x6 x7 l6 g6 l7 g7
      have hstep := Aside0.mk (fun W (h : L1 w0 g b1 b2 p l es i vs Ar cr W) => h.step hlt2 hpr2 hne hb1')
      have htl := prL_take_le l (i + 1)
      have hts := prL_take_succ l i hlt2
      have hnx := getN l i hlt2
      subst hA
      have up : ∀ {a : Addr} {u : Value}, w0.cell? a = some u → wr.cell? a = some u := fun h => (HR.s.k.bel.cell (World.block_lt_of_cell? _ _ h)).trans h
      have hab := World.block_lt_of_cell? _ _ (up x0)
      replace x0 := up x0
      replace x1 := up x1
      replace x2 := up x2
      replace x3 := up x3
      replace x4 := up x4
      replace x5 := up x5
      replace x6 := up x6
      replace x7 := up x7
      clear up hrd
      generalize l[i] = x at *
      have hprx := Aside0.mk (fun W hb (hB : Below w0.heap.size w0 W) => prints1 (x := x) (by omega) (B := wr.heap.size + 1) (A6 := A6) (A7 := A7) (c6 := c6) (c7 := c7) W hb l6 (Kd.C_below g6 hB) l7 (Kd.C_below g7 hB))
      have hk0 : (0 : Int) ≤ (prN x : Int) := Int.natCast_nonneg _
      have hpe := hpr2
      have hkl : prN x ≤ (es.drop (prL (l.take i))).length := by rw [List.length_drop]; omega
      have hk1 : (prN x : Int) ≤ ((es.drop (prL (l.take i))).length : Int) := by omega
      have hcr := HR.le
      obtain ⟨i3, hi3, hs3⟩ := inf3
      have hcut1 := cut_to (P := Tryd.prog) 35 3 .i64 Tryd.underlying35 hi3 Ar (es.drop (prL (l.take i))).length cr (prN x) hk0 hk1 hcr
      have hcut2 := cut_from (P := Tryd.prog) 35 3 .i64 Tryd.underlying35 hi3 1 hs3 Ar (es.drop (prL (l.take i))).length cr (prN x) hk0 hk1
      simp only [Int.toNat_natCast] at hcut1 hcut2
      replace HR := Aside0.mk HR
      replace hcr := Aside0.mk hcr
      replace hkl := Aside0.mk hkl
      replace hpe := Aside0.mk hpe
      have hnl : (es.drop (prL (l.take (i + 1)))).length = (es.drop (prL (l.take i))).length - prN x := by rw [List.length_drop, List.length_drop]; omega
      generalize (es.drop (prL (l.take i))).length = rl at *
      replace hnl := Aside0.mk hnl
      clear l6 g6 l7 g7 hi3 hs3
      go_wp2_with (go_at_call 56; refine (hprx.out _ (blk_n1 _ _ _) (below_alloc (below_alloc HR.out.s.k.bel _) _)).mono ?_; rintro e w3 ⟨rfl, HB3⟩; have H3 := Aside0.mk (show L1 w0 g b1 b2 p l es i vs Ar cr w3 from ⟨((HR.out.s.alloc _).alloc _).below HB3, HR.out.len, HR.out.vs, HR.out.rest, HR.out.le⟩); clear HB3 HR hprx x0 x1 x2 x3 x4 x5 x6 x7)
      have p0 : w3.cell? ⟨p, 0, none⟩ = some (.pointer (some ⟨g, 0, none⟩)) := blk_cell H3.out.s.pb 0
      have g1 : w3.cell? ⟨g, 1, none⟩ = some (.map (some b1)) := blk_cell H3.out.s.k.blk 1
      have hlp := blk_lt H3.out.s.pb
      have hlg := blk_lt H3.out.s.k.blk
      have hgb : g ≠ b1 := (H3.out.s.e.ne_g H3.out.s.k).symm
      have hpb : p ≠ b1 := by
        intro e
        have h1 : w3.heap[b1]? = _ := H3.out.s.e
        rw [← e, H3.out.s.pb] at h1
        cases h1
      have hent := H3.out.s.e.drew.entry
      have hsto := H3.out.s.e.drew.store (.slice Ar (prN x) cr)
      have H4 := hstep.out _ (show L1 w0 g b1 b2 p l es i vs Ar cr w3.drew from ⟨H3.out.s.drew, H3.out.len, H3.out.vs, H3.out.rest, H3.out.le⟩)
      rw [H3.out.len] at hent hsto H4
      have p5 := fun es n => (mapW_cell (es := es) (n := n) (w := w3.drew) hpb).trans p0
      have g5 := fun es n => (mapW_cell (es := es) (n := n) (w := w3.drew) hgb).trans g1
      generalize hW5 : mapW w3.drew b1 ((escL vs).toArray.push { key := .int .i64 i, val := .slice none 0 0, born := i }) (i + 1) = W5 at hent hsto
      generalize hW6 : mapW w3.drew b1 (escL (vs ++ [.slice Ar (prN x) cr])).toArray (i + 1) = W6 at hsto H4
      have p6 : W6.cell? ⟨p, 0, none⟩ = some (.pointer (some ⟨g, 0, none⟩)) := by rw [← hW6]; exact p5 _ _
      have g6 : W6.cell? ⟨g, 1, none⟩ = some (.map (some b1)) := by rw [← hW6]; exact g5 _ _
      replace p5 : W5.cell? ⟨p, 0, none⟩ = some (.pointer (some ⟨g, 0, none⟩)) := by rw [← hW5]; exact p5 _ _
      replace g5 : W5.cell? ⟨g, 1, none⟩ = some (.map (some b1)) := by rw [← hW5]; exact g5 _ _
      generalize (if cr = prN x then Ar else Ar.map fun a => a.add (prN x * 1)) = Az at hcut2 H4
      replace H4 := Aside0.mk H4
      clear hstep hcr hkl hpe hW5 hW6
      go_region_held3 (fun w' => w'.cell? ⟨p, 0, none⟩ = some (.pointer (some ⟨g, 0, none⟩)) ∧ w'.cell? ⟨g, 1, none⟩ = some (.map (some b1))) (first | exact ⟨p0, g1⟩ | exact ⟨p5, g5⟩ | exact ⟨p6, g6⟩ | go_keep) (fail)
      go_wp2_with fail
      go_roundg (gk - 1)
      case measure => omega
      case rel => exact ⟨i + 1, _, Az, cr - prN x, by omega, by simp, by rw [hnl.out], H4.out⟩
    · have hl : decide ((i : Int) < (l.length : Int)) = false := decide_eq_false (by omega)
      have hil : i = l.length := by have := HR.len; omega
      subst hil
      have HS := HR.s
      have HV := HR.vs
      have HVl := HR.len
      clear HR hki
      have H2 : L2 w0 g b1 b2 p l es vs (topS l es ⟨[], [], []⟩) 0 (.slice none 0 0) none 0 ⟨[], [], []⟩ wr := ⟨HS, by simp [prL], by simp, by simp⟩
      obtain ⟨R, hR⟩ : ∃ R, R = topS l es ⟨[], [], []⟩ := ⟨_, rfl⟩
      rw [← hR] at H2
      replace hR := Aside0.mk hR
      replace H2 := Aside0.mk H2
      replace HV := Aside0.mk HV
      clear HS hCe hle
      generalize (List.drop (prL (List.take l.length l)) es).length = rl0
      go_wp2_with fail
      go_loopg [72] l.length (fun kq v72 wr => ∃ (i : Nat) (v' : Value) (A' : Option Addr) (c' : Nat) (st : KS), kq + i = l.length ∧ v72 = .int .i64 i ∧ L2 w0 g b1 b2 p l es vs R i v' A' c' st wr)
      case atStart => exact ⟨0, _, _, _, _, rfl, rfl, H2.out⟩
      case round =>
        clear H2
        obtain ⟨i, v1, A1, c1, st, hki, rfl, HR⟩ := hrel
        by_cases hlt2 : i < l.length
        · have hl : decide ((i : Int) < (l.length : Int)) = true := decide_eq_true (by omega)
          obtain ⟨ad, A6, c6, A7, c7, hA, x0, x1, x2, x3, x4, x5, x6, x7, l6, g6, l7, g7⟩ := at_T78 hCw.out (i : Int) (by omega) (by omega)
          have hrd : rd_T78 l (i : Int) = l[i] := by unfold rd_T78; simp [List.getD, hlt2]
          simp only [Int.toNat_natCast] at x0 x1 x2 x3 x4 x5 x6 x7
          rw [hrd] at x0 x1 x2 x3 x4 x5 x6 x7 l6 g6 l7 g7
          have hnx := getN l i hlt2
          have hsx := Aside0.mk (by have := sm_drop l i hsm.out; rw [List.drop_eq_getElem_cons hlt2] at this; exact this.1 : smN l[i])
          have hd : l.drop i = l[i] :: l.drop (i + 1) := List.drop_eq_getElem_cons hlt2
          have hei := esI_len hlt2 hpr2
          obtain ⟨Ae, ce2, hv1, hv2, hv3⟩ := HV.out i (by omega)
          have hb1c := HR.lc
          have hb2c := HR.len
          rw [hd, nL_cons] at hb1c hb2c
          have hsame := Aside0.mk (fun W (h6 : l[i].f0 = 6) (hs : CS w0 g b1 b2 p vs v1 st A1 c1 W) => HR.same hlt2 h6 hs)
          have hnext := Aside0.mk (fun W v2 A2 c2 (h6 : l[i].f0 ≠ 6) (hs : CS w0 g b1 b2 p vs v2 (gN l[i] ⟨st.code, esI l es i, st.calls⟩) A2 c2 W) => HR.next hlt2 hpr2 h6 hs)
          have hep := eN_pr l[i]
          subst hA
          have up : ∀ {a : Addr} {u : Value}, w0.cell? a = some u → wr.cell? a = some u := fun h => (HR.s.k.bel.cell (World.block_lt_of_cell? _ _ h)).trans h
          have hab := World.block_lt_of_cell? _ _ (up x0)
          replace x0 := up x0
          replace x1 := up x1
          replace x2 := up x2
          replace x3 := up x3
          replace x4 := up x4
          replace x5 := up x5
          replace x6 := up x6
          replace x7 := up x7
          clear up hrd
          generalize l[i] = x at *
          generalize esI l es i = ei at *
          obtain ⟨hei1, hei2⟩ := hei
          replace hei1 := Aside0.mk hei1
          have htop := Aside0.mk (fun W (h : CS w0 g b1 b2 p vs v1 st A1 c1 W) hb => top_main x h hne i ei Ae ce2 hv1 hv2 hv3 (wr.heap.size + 1) A6 A7 c6 c7 hb g6 l6 g7 l7 hb2' hsx.out (by omega) (by omega) (by omega))
          have HS := Aside0.mk HR.s
          clear HR l6 g6 l7 g7 hv1 hv2 hv3 hsx hd hep hb1c hb2c hnx hei1 hei2
          by_cases k6 : x.f0 = 6
          · have k6' : (x.f0 != 6) = false := by simp [k6]
            have h5 := Aside0.mk (hsame.out _ k6 (HS.out.alloc (.cells (nodC x A6 A7 c6 c7) 78)))
            replace k6 := Aside0.mk k6
            clear hsame hnext htop HS
            go_wp2_with fail
            go_roundg (gk - 1)
            case measure => omega
            case rel => exact ⟨i + 1, _, _, _, _, by omega, by simp, h5.out⟩
          · have k6' : (x.f0 != 6) = true := by simp [k6]
            replace k6 := Aside0.mk k6
            go_wp2_with (go_at_call 57; refine (htop.out _ ((HS.out.alloc _).alloc _) (blk_n1 _ _ _)).mono ?_; rintro e w3 ⟨rfl, ⟨v2, A2, c2, h2⟩, hK⟩; replace h2 := Aside0.mk (hnext.out _ _ _ _ k6.out h2); clear hK hsame hnext htop HS x0 x1 x2 x3 x4 x5 x6 x7)
            go_roundg (gk - 1)
            case measure => omega
            case rel => exact ⟨i + 1, _, _, _, _, by omega, by simp, h2.out⟩
        · have hl : decide ((i : Int) < (l.length : Int)) = false := decide_eq_false (by omega)
          have HS := HR.s
          have HE := HR.eq
          have hb1c := HR.lc
          have hb2c := HR.len
          rw [List.drop_eq_nil_of_le (by omega)] at HE hb1c hb2c
          rw [topS] at HE
          subst HE
          have hem := Aside0.mk (emit_cs HS hne ⟨9, ⟨#[]⟩, ⟨#[]⟩, false, 0, 0⟩ (by simp only [nL] at hb2c; omega))
          have hp0 := Aside0.mk HS.pb
          have p0 : wr.cell? ⟨p, 0, none⟩ = some (.pointer (some ⟨g, 0, none⟩)) := blk_cell HS.pb 0
          replace HS := Aside0.mk HS
          have hc9 : (st.emit ⟨9, ⟨#[]⟩, ⟨#[]⟩, false, 0, 0⟩).calls.length + nL l ≤ 2 * nL l := by simp only [KS.emit, nL] at hb1c ⊢; omega
          have hk9 : (st.emit ⟨9, ⟨#[]⟩, ⟨#[]⟩, false, 0, 0⟩).code.length + 2 * nL l ≤ 4 * nL l + 1 := by simp only [KS.emit, nL, List.length_append, List.length_singleton] at hb2c ⊢; omega
          have h0l : st.code.length ≤ 1000000 := by omega
          have hmm := @run_makeMap Tryd.prog
          go_wp2_with (go_at_call 59; refine hem.out.mono ?_; rintro e w9 ⟨rfl, ⟨v9, A9, c9, h9⟩, hK⟩; replace h9 := Aside0.mk h9; clear hK hem HR HS hp0 p0)
          have hba0 : w0.heap.size ≤ w9.heap.size := h9.out.k.bel.size
          have hba1 : w9.heap.size ≠ b1 := fun e => by have := h9.out.e.lt; omega
          have hba2 : w9.heap.size ≠ b2 := fun e => by have := h9.out.m.lt; omega
          obtain ⟨R3, hR3⟩ : ∃ R3, R3 = defS l es (st.emit ⟨9, ⟨#[]⟩, ⟨#[]⟩, false, 0, 0⟩) [] := ⟨_, rfl⟩
          have hfin : r = (patW R3.1.code R3.1.calls R3.2 (fun i => (nmA R3.1.calls i).isSome), 0, 0) := by rw [hr2.out, hR3, hR.out]; rfl
          have hkok : KOk2 R3.1 := by rw [hR3, hR.out]; exact code_kok es hsm.out
          replace hfin := Aside0.mk hfin
          replace hkok := Aside0.mk hkok
          have H3 : L3 w0 g b1 b2 p l es vs R3 w9.heap.size 0 v9 A9 c9 (st.emit ⟨9, ⟨#[]⟩, ⟨#[]⟩, false, 0, 0⟩) [] 0 (.map []) (w9.alloc (.map #[] 0)) := ⟨h9.out.alloc _, by simp [prL, hR3], hc9, hk9, MpA.start _, Nat.zero_le _, fun q hq => by cases hq⟩
          generalize w9.alloc (.map #[] 0) = w10 at H3 ⊢
          generalize w9.heap.size = ba at *
          generalize st.emit ⟨9, ⟨#[]⟩, ⟨#[]⟩, false, 0, 0⟩ = st9 at *
          replace hR3 := Aside0.mk hR3
          replace H3 := Aside0.mk H3
          clear h9 hmm hb1c hb2c hlt2 hl hki hc9 hk9 h0l
          go_loopg [92] l.length (fun kq v92 wr => ∃ (i : Nat) (v' : Value) (A' : Option Addr) (c' : Nat) (st : KS) (ad : List (ByteArray × Int)) (n : Nat) (D : DataW Unit), kq + i = l.length ∧ v92 = .int .i64 i ∧ L3 w0 g b1 b2 p l es vs R3 ba i v' A' c' st ad n D wr)
          case atStart => exact ⟨0, _, _, _, _, _, _, _, rfl, rfl, H3.out⟩
          case round =>
            clear H3
            obtain ⟨i, v1, A1, c1, st1, ad, n, D, hki, rfl, HR⟩ := hrel
            by_cases hlt2 : i < l.length
            · have hl : decide ((i : Int) < (l.length : Int)) = true := decide_eq_true (by omega)
              obtain ⟨adr, A6, c6, A7, c7, hA, x0, x1, x2, x3, x4, x5, x6, x7, l6, g6, l7, g7⟩ := at_T78 hCw.out (i : Int) (by omega) (by omega)
              have hrd : rd_T78 l (i : Int) = l[i] := by unfold rd_T78; simp [List.getD, hlt2]
              simp only [Int.toNat_natCast] at x0 x1 x2 x3 x4 x5 x6 x7
              rw [hrd] at x0 x1 x2 x3 x4 x5 x6 x7 l6 g6 l7 g7
              have hnx := getN l i hlt2
              have hsx := Aside0.mk (by have := sm_drop l i hsm.out; rw [List.drop_eq_getElem_cons hlt2] at this; exact this.1 : smN l[i])
              have hd : l.drop i = l[i] :: l.drop (i + 1) := List.drop_eq_getElem_cons hlt2
              have hei := esI_len hlt2 hpr2
              obtain ⟨Ae2, ce2, hv1, hv2, hv3⟩ := HV.out i (by omega)
              have hb1c := HR.lc
              have hb2c := HR.len
              have hadl := HR.adl
              have hnle := HR.ma.le
              rw [hd, nL_cons, nN_eq] at hb1c hb2c
              have hsame := Aside0.mk (fun W (h6 : l[i].f0 ≠ 6) (hs : CS w0 g b1 b2 p vs v1 st1 A1 c1 W) hm => HR.same hlt2 h6 hs hm)
              have hnext := Aside0.mk (fun W v2 A2 c2 n2 D2 (h6 : l[i].f0 = 6) (hs : CS w0 g b1 b2 p vs v2 ((gL l[i].f6 ⟨st1.code, esI l es i, st1.calls⟩).emit ⟨7, e0, e0, false, 0, 0⟩) A2 c2 W) (hm : MpA W ba (ad ++ [(l[i].f2, (st1.code.length : Int))]) n2 D2) => HR.next hlt2 hpr2 hlen h6 hs hm)
              have hep : eL l[i].f6 ≤ prN l[i] := by have := eL_pr l[i].f6; rw [prN_eq]; omega
              subst hA
              have up : ∀ {a : Addr} {u : Value}, w0.cell? a = some u → wr.cell? a = some u := fun h => (HR.s.k.bel.cell (World.block_lt_of_cell? _ _ h)).trans h
              have hab := World.block_lt_of_cell? _ _ (up x0)
              replace x0 := up x0
              replace x1 := up x1
              replace x2 := up x2
              replace x3 := up x3
              replace x4 := up x4
              replace x5 := up x5
              replace x6 := up x6
              replace x7 := up x7
              clear up hrd
              generalize l[i] = x at *
              generalize esI l es i = ei at *
              obtain ⟨hei1, hei2⟩ := hei
              replace hei1 := Aside0.mk hei1
              have hsz : x.f2.size ≤ 65536 := by have := hsx.out; cases x; simp only [smN] at this; exact this.1
              have htop := Aside0.mk (fun W (h : CS w0 g b1 b2 p vs v1 st1 A1 c1 W) => top_def x.f6 h hne i ei Ae2 ce2 hv1 hv2 hv3 A6 c6 g6 l6 hb2' (by have := hsx.out; cases x; simp only [smN] at this; exact this.2.1) (by omega) (by omega) (by omega))
              have hgl := gL_len x.f6 ⟨st1.code, ei, st1.calls⟩
              dsimp only at hgl
              have hem := Aside0.mk (fun W v2 A2 c2 (h : CS w0 g b1 b2 p vs v2 (gL x.f6 ⟨st1.code, ei, st1.calls⟩) A2 c2 W) => emit_cs h hne ⟨7, ⟨#[]⟩, ⟨#[]⟩, false, 0, 0⟩ (by omega))
              have hcl : (st1.code.length : Int) ≤ 1000000000000 := by omega
              have hn0 : n < maxLen := by unfold maxLen; omega
              have HS := Aside0.mk HR.s
              have HM := Aside0.mk HR.ma
              clear HR l6 g6 l7 g7 hv1 hv2 hv3 hsx hd hep hb1c hb2c hnx hei1 hei2 hadl hnle hgl
              by_cases k6 : x.f0 = 6
              case neg =>
                have k6' : (x.f0 == 6) = false := by simp [k6]
                have h5 := Aside0.mk (hsame.out _ k6 (HS.out.alloc (.cells (nodC x A6 A7 c6 c7) 78)) (HM.out.alloc _))
                replace k6 := Aside0.mk k6
                clear hsame hnext htop HS HM hem
                go_wp2_with fail
                go_roundg (gk - 1)
                case measure => omega
                case rel => exact ⟨i + 1, _, _, _, _, _, _, _, by omega, by simp, h5.out⟩
              have k6' : (x.f0 == 6) = true := by simp [k6]
              obtain ⟨W1, e1⟩ : ∃ W1, W1 = wr.alloc (.cells #[.int .i64 x.f0, .int .i64 x.f1, .string x.f2, .string x.f3, .bool x.f4, .bool x.f5, .slice A6 x.f6.length c6, .slice A7 x.f7.length c7] 78) := ⟨_, rfl⟩
              have HS1 : CS w0 g b1 b2 p vs v1 st1 A1 c1 W1 := by rw [e1]; exact HS.out.alloc _
              have HM1 : MpA W1 ba ad n D := by rw [e1]; exact HM.out.alloc _
              have hbx : W1.heap[wr.heap.size]? = some (.cells (nodC x A6 A7 c6 c7) 78 (0, 0)) := by rw [e1]; exact blk_new _ _
              replace k6 := Aside0.mk k6
              clear HS HM hsame
              go_upto_region 27 with fail
              rw [← e1]
              clear e1
              obtain ⟨A0, c0, rfl⟩ := Kd.R_slice HS1.k.own
              have n2 : W1.cell? ⟨wr.heap.size, 2, none⟩ = some (.string x.f2) := blk_cell hbx 2
              have p0 : W1.cell? ⟨p, 0, none⟩ = some (.pointer (some ⟨g, 0, none⟩)) := blk_cell HS1.pb 0
              have g0 : W1.cell? ⟨g, 0, none⟩ = some (.slice A0 st1.code.length c0) := blk_cell HS1.k.blk 0
              have hkey : keyOf Tryd.prog 9 (.string x.f2) = some (kS x.f2) := Go.WideMaps.keyOf_string_mk Tryd.underlying9 (show x.f2.size ≤ maxLen by unfold maxLen; omega)
              obtain ⟨W2, hrun, hO2, hg2⟩ := HM1.drew.own.update law9 Tryd.underlying127 hn0 hkey (plainElem_int Tryd.underlying3 (wf64 (Int.natCast_nonneg st1.code.length) hcl))
              have hM2 := Aside0.mk (HM1.drew.put x.f2 _ hO2)
              obtain ⟨esm, clkm, hmb⟩ := HM1.at_blk
              have HS2 := Aside0.mk (HS1.drew.moved (k0 := ba) hmb (fun _ _ _ e => by cases e) hba0 hba1 hba2 hg2)
              have hbx2 : W2.heap[wr.heap.size]? = some (.cells (nodC x A6 A7 c6 c7) 78 (0, 0)) := blk_grown (w := W1.drew) hbx hg2 (fun e => by
                have e2 : wr.heap.size = ba := by simpa using e
                rw [← e2, hbx] at hmb
                cases hmb)
              have n6 : W2.cell? ⟨wr.heap.size, 6, none⟩ = some (.slice A6 x.f6.length c6) := blk_cell hbx2 6
              have q0 : W2.cell? ⟨p, 0, none⟩ = some (.pointer (some ⟨g, 0, none⟩)) := blk_cell HS2.out.pb 0
              replace hbx2 := Aside0.mk hbx2
              clear HS1 HM1 hbx hO2 hg2 hmb hkey x0 x1 x2 x3 x4 x5 x6 x7
              refine wp_region_still_tail 8 (by kernel_rfl) (by kernel_rfl) ?_
              simp only [List.take_succ_cons, List.take_zero, List.drop_succ_cons, List.drop_zero]
              change wpStill _ _ (World.drew _) (fun a' => wpList _ _ _ _ a' (World.drew _)) _ _
              repeat (refine wpStill_step (fun K hK => ?_); go_simp; refine hK _ ?_; clear hK K)
              refine wpStill_nil ?_
              go_wp2_with (first | (go_at_call 57; refine (htop.out _ HS2.out).mono ?_; rintro e w3 ⟨rfl, ⟨v3, A3, c3, h3⟩, hK3⟩; have hM3 := Aside0.mk (hK3.ma hM2.out hba2); have r0 : w3.cell? ⟨p, 0, none⟩ = some (.pointer (some ⟨g, 0, none⟩)) := blk_cell h3.pb 0; replace h3 := Aside0.mk h3; clear hK3 hM2 HS2 htop n6 q0 hbx2 n2 p0 g0 hrun) | (go_at_call 59; refine (hem.out _ _ _ _ h3.out).mono ?_; rintro e w4 ⟨rfl, ⟨v4, A4, c4, h4⟩, hK4⟩; have hM4 := Aside0.mk (hK4.ma hM3.out hba2); replace h4 := Aside0.mk (hnext.out _ _ _ _ _ _ k6.out h4 hM4.out); clear hK4 hM3 h3 hem r0))
              go_roundg (gk - 1)
              case measure => omega
              case rel => exact ⟨i + 1, _, _, _, _, _, _, _, by omega, by simp, h4.out⟩
            · have hl : decide ((i : Int) < (l.length : Int)) = false := decide_eq_false (by omega)
              have HE := HR.eq
              rw [List.drop_eq_nil_of_le (by omega), defS] at HE
              rw [← HE] at hfin hkok
              have hb2c := HR.len
              have hb1c := HR.lc
              have HS := Aside0.mk HR.s
              have HM := Aside0.mk HR.ma
              have habd := Aside0.mk HR.abd
              have p0 : wr.cell? ⟨p, 0, none⟩ = some (.pointer (some ⟨g, 0, none⟩)) := blk_cell HR.s.pb 0
              have g3 : wr.cell? ⟨g, 3, none⟩ = some (.map (some b2)) := blk_cell HR.s.k.blk 3
              have hmc : World.ownsMap (H := Unit) wr Tryd.prog 3 (plainElem Tryd.prog 9) b2 st1.calls.length (mpD st1.calls) := HR.s.m
              have hr0 : w0.heap.size ≤ wr.heap.size := HR.s.k.bel.size
              have hrba : wr.heap.size ≠ ba := fun e => by have := HR.ma.lt; omega
              clear HR HE
              go_wp2_with (at_range; refine wpList_range_own _ rfl _ 120 rfl 3 9 law3 Tryd.underlying120 _ b2 _ _ rfl hmc ?_; intro w5 hrg0 hg0 hs0)
              have H4 : L4 w0 g b1 b2 p ba wr.heap.size st1 ad n D v1 A1 c1 (Go.Maps.has (mpD st1.calls)) (Go.Maps.size (mpD st1.calls)) w5 := ⟨by rw [patW_start]; exact (HS.out.grown0 hg0).k, hrg0, fun _ h => h, HM.out.move (hg0.block _ HM.out.lt (by simp)), (HS.out.grown0 hg0).pb⟩
              generalize wr.heap.size = rb at *
              replace H4 := Aside0.mk H4
              clear hrg0 hg0 hs0 HS HM hmc p0 g3
              go_loopw [20] (fun _ wr => ∃ (left : Lit → Bool) (cnt : Nat), L4 w0 g b1 b2 p ba rb st1 ad n D v1 A1 c1 left cnt wr) (fun _ wr => wr.rangeLeft b2 rb)
              case atStart => exact ⟨_, _, H4.out⟩
              case round =>
                clear H4
                obtain ⟨left, cnt, HR⟩ := hrel
                have p0 : wr.cell? ⟨p, 0, none⟩ = some (.pointer (some ⟨g, 0, none⟩)) := blk_cell HR.pb 0
                have g0 : wr.cell? ⟨g, 0, none⟩ = some v1 := blk_cell HR.k.blk 0
                have hlp := blk_lt HR.pb
                have hlg := blk_lt HR.k.blk
                have hrg := HR.rg
                replace HR := Aside0.mk HR
                go_wp2_with (at_next; refine wpList_next_ranges _ rfl _ rfl 3 law3 (plainElem Tryd.prog 9) (Value.int .i64) Value.string (fun key kl hk => by obtain ⟨x, rfl, _⟩ := Go.Maps.keyOf_int_inv Tryd.underlying3 hk; exact ⟨x, rfl⟩) (fun v y hv => by obtain ⟨c, rfl, _⟩ := plain9_inv hv; exact ⟨c, rfl⟩) b2 rb _ _ _ _ rfl hrg ?_ ?_)
                · intro hc0 hl0
                  have hend := patW_end (st := st1) (ad := ad) (left := left) hl0
                  have hkk := HR.out.k
                  rw [hend] at hkk
                  replace hkk := Aside0.mk hkk
                  clear hrg hend
                  go_wp2_with fail
                  go_ret3
                  rw [hfin.out]
                  exact ⟨_, rfl, Kd.R_lower (Kd.R_mono hkk.out.own (fun _ _ => trivial)) HB2.out.size, below_step HB2.out hkk.out.bel⟩
                · intro x s kl yd yp w2 cnt2 hkey hlk hv hat hrg2 hlt hg2 hs2 hen
                  obtain ⟨x', ex, rfl, _⟩ := Go.Maps.keyOf_int_inv Tryd.underlying3 hkey
                  cases ex
                  obtain ⟨s', es', ey⟩ := plain9_inv hv
                  cases es'
                  cases ey
                  obtain ⟨j, rfl, hn, hj, hsz⟩ := HR.out.came hkok.out hlk hat
                  obtain ⟨hk2, hm2, hp2⟩ := HR.out.moved hr0 hrba hg2 hrg2
                  obtain ⟨gr, cr2, rfl, hgr, hfr, ⟨u, hcu⟩, hR5, hG5⟩ := k40_put5 hk2.drew.own j (by rw [patW_len]; exact hj) (adOf ad s)
                  have hlook := hm2.drew.look s hsz
                  have g0 : w2.cell? ⟨g, 0, none⟩ = some (.slice (some ⟨gr, 0, none⟩) st1.code.length cr2) := by rw [← patW_len st1.code st1.calls ad (doneP (mpD st1.calls) left)]; exact blk_cell hk2.blk 0
                  have p0 : w2.cell? ⟨p, 0, none⟩ = some (.pointer (some ⟨g, 0, none⟩)) := blk_cell hp2 0
                  have hj0 : (0 : Int) ≤ (j : Int) := Int.natCast_nonneg j
                  have hj1 : (j : Int) < (st1.code.length : Int) := by omega
                  have hKO := Aside0.mk ((hk2.drew.out (mb := none)).landed (gr := gr) (p := ⟨gr, j * 6 + 5, none⟩) rfl rfl hR5 hG5)
                  have hgb2 : b2 ≠ gr := by
                    rintro rfl
                    obtain ⟨es1, cl1, hb⟩ := hrg2.owns
                    have hb' := hb.1
                    obtain ⟨_, inner, ho, _⟩ := hk2.own
                    rcases ho.2 with ⟨q, _⟩ | ⟨g', cap, cur, q, _, hh, _⟩
                    · cases q
                    · cases q
                      rw [hh] at hb'
                      cases hb'
                  have hgrb : rb ≠ gr := by
                    rintro rfl
                    obtain ⟨_, _, _, _, _, _, _, _, _, hit, _⟩ := hrg2
                    obtain ⟨_, inner, ho, _⟩ := hk2.own
                    rcases ho.2 with ⟨q, _⟩ | ⟨g', cap, cur, q, _, hh, _⟩
                    · cases q
                    · cases q
                      rw [hh] at hit
                      cases hit
                  have hrg3 := Aside0.mk ((show w2.drew.ranges Tryd.prog 3 (plainElem Tryd.prog 9) b2 rb st1.calls.length (mpD st1.calls) (fun z => left z && !z.sameKey (.int .i64 (j : Int))) cnt2 from hrg2).kept hG5 (by simpa using hgb2) (by simpa using hgrb))
                  have hma3 := Aside0.mk (hm2.drew.move (hG5.block ba hm2.lt (by
                    obtain ⟨es1, cl1, hb⟩ := hm2.at_blk
                    exact map_ne_row hb hk2)))
                  have hpb3 := Aside0.mk (blk_grown (w := w2.drew) hp2 hG5 (fun e => by
                    have e1 : p = gr := by simpa using e
                    obtain ⟨_, inner, ho, _⟩ := hk2.own
                    rcases ho.2 with ⟨q, _⟩ | ⟨g', cap, cur, q, _, hh, _⟩
                    · cases q
                    · cases q
                      rw [← e1, hp2] at hh
                      cases hh))
                  have hsub := Aside0.mk HR.out.sub
                  have hmeas := HR.out.rg.left_eq
                  replace hn := Aside0.mk hn
                  replace hmeas := Aside0.mk hmeas
                  replace hlt := Aside0.mk hlt
                  clear hk2 hm2 hp2 hR5 hG5 HR hrg hrg2 hg2 hs2 hkey hlk hv hat
                  go_upto_region 34 with fail
                  refine wp_region_still_tail 10 (by kernel_rfl) (by kernel_rfl) ?_
                  simp only [List.take_succ_cons, List.take_zero, List.drop_succ_cons, List.drop_zero]
                  change wpStill _ _ (World.drew _) (fun a' => wpList _ _ _ _ a' (World.drew _)) _ _
                  repeat (refine wpStill_step (fun K hK => ?_); go_simp; refine hK _ ?_; clear hK K)
                  refine wpStill_nil ?_
                  go_wp2_with fail
                  go_roundw
                  case rel => exact ⟨_, cnt2, ⟨by rw [← patW_step hn.out]; exact hKO.out.st, hrg3.out, fun kl h => hsub.out kl (by simp only [Bool.and_eq_true] at h; exact h.1), hma3.out, hpb3.out⟩⟩
                  case measure => rw [hmeas.out]; exact Nat.lt_of_le_of_lt (Nat.le_of_eq hrg3.out.left_eq) hlt.out
end Go.Proofs.YtkpnfejfbmandaaDoor.Px
