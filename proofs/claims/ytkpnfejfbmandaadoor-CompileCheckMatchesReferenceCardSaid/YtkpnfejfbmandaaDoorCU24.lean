import Derived.Test.YtkpnfejfbmandaaDoorCU22
import Derived.Test.YtkpnfejfbmandaaDoorCU23
import Derived.Test.YtkpnfejfbmandaaDoorCU21
/- compile.Compile; tmplpipelaw17.alive. -/
namespace Go.Proofs.YtkpnfejfbmandaaDoor.Px
open Go.RowKit Go.Proofs.YtkpnfejfbmandaaDoorW.PrintWords Go.Proofs.YtkpnfejfbmandaaDoorW.PrintLast Go.Proofs.YtkpnfejfbmandaaDoorW.PrintMore
set_option linter.unusedVariables false
set_option linter.unusedSimpArgs false
/-- What Compile answers, by what Parse answers. -/
def compF (r : List S78 × Int × Int) : List S40 × Int × Int := if r.2.2 = 0 then codeF r.1 else ([], r.2.1, r.2.2)
theorem parsed_ok {s : ByteArray} {r : List S78 × Int × Int} (h : Ev (fun k => parse_Parse.f k s) r) : wfL true r.1 ∧ nL r.1 ≤ 4096 := by
  obtain ⟨k, hk⟩ := h.one
  refine ⟨parse_wf hk, ?_⟩
  by_cases he : r.2.2 = 0
  · obtain ⟨L, n', hs, hL, hp, _⟩ := parse_good hk he
    have := (parse_cnt k).1 _ _ _ _ _ _ _ hp
    simp only [nL] at this
    have h1 := this.2 (by omega)
    have h2 := this.1
    omega
  · rw [(parse_bad hk he).1]; simp [nL]
theorem code_ok {l : List S78} (hw : wfL true l) (hn : nL l ≤ 4096) (A : Option Addr) (c : Nat) (w : World) (hC : Kd.C k78 w A l.length l) (hc : l.length ≤ c) :
    Calls Tryd.prog 35 #[.slice A l.length c] w fun e w' => ∃ v, e = .returned (.tuple #[v, .int .i64 (codeF l).2.1, .int .i64 (codeF l).2.2]) ∧ Kd.R k40 40 w' w.heap.size (fun _ => True) v (codeF l).1 ∧ Below w.heap.size w w' :=
  code_any l A c w hC hc (wfL_sm hw) (by omega) (fun h => Nat.le_of_eq (infer_len hw h).symm)
set_option maxHeartbeats 1000000 in
set_option maxRecDepth 100000 in
theorem compile_any {s : ByteArray} {r : List S78 × Int × Int} (h : Ev (fun k => parse_Parse.f k s) r) (w : World) (hG : GS w) :
    Calls Tryd.prog 15 #[.string s] w fun e w' => ∃ v, e = .returned (.tuple #[v, .int .i64 (compF r).2.1, .int .i64 (compF r).2.2]) ∧ Kd.R k40 40 w' w.heap.size (fun _ => True) v (compF r).1 ∧ Below w.heap.size w w' := by
  obtain ⟨hw, hn⟩ := parsed_ok h
  have hpa := Aside0.mk (parse_any h w hG)
  have hco := Aside0.mk (fun A c W hC hc => code_ok hw hn A c W hC hc)
  obtain ⟨q, hq⟩ : ∃ q, q = compF r := ⟨_, rfl⟩
  rw [← hq]
  unfold compF at hq
  clear h hG hw hn
  obtain ⟨l, a, e⟩ := r
  dsimp only at hpa hco hq
  by_cases he : e = 0
  · have he' : (e != 0) = false := by simp [he]
    rw [if_pos he] at hq
    rw [← hq] at hco
    replace hq := Aside0.mk hq
    replace he := Aside0.mk he
    go_enter Tryd.func15, Tryd.ntmps15
    go_wp2_with (first | (go_at_call 10; refine hpa.out.mono ?_; rintro ee w1 ⟨A, c, rfl, hC, hc, HB⟩; replace HB := Aside0.mk HB; replace hC := Aside0.mk hC) | (go_at_call 35; refine (hco.out _ _ _ hC.out hc).mono ?_; rintro ee w2 ⟨v, rfl, HR, HB2⟩; replace HR := Aside0.mk HR; replace HB2 := Aside0.mk HB2))
    go_ret3
    exact ⟨_, rfl, Kd.R_lower HR.out HB.out.size, below_step HB.out HB2.out⟩
  · have he' : (e != 0) = true := by simp [he]
    rw [if_neg he] at hq
    replace hq := Aside0.mk hq
    replace he := Aside0.mk he
    go_enter Tryd.func15, Tryd.ntmps15
    go_wp2_with (go_at_call 10; refine hpa.out.mono ?_; rintro ee w1 ⟨A, c, rfl, hC, hc, HB⟩; replace HB := Aside0.mk HB; replace hC := Aside0.mk hC)
    go_ret3
    rw [hq.out]
    exact ⟨_, rfl, Kd.R_nil _ _ _ _ _, HB.out⟩
def al17l : List S78 := [⟨0, 0, ⟨#[97]⟩, ⟨#[]⟩, false, false, [], []⟩, ⟨2, 1, ⟨#[]⟩, ⟨#[116]⟩, true, false, [⟨0, 10, ⟨#[98]⟩, ⟨#[]⟩, false, false, [], []⟩], []⟩]
def al17c : List S40 := [⟨0, ⟨#[97]⟩, ⟨#[]⟩, false, 0, 0⟩, ⟨2, ⟨#[]⟩, ⟨#[116]⟩, false, 0, 3⟩, ⟨0, ⟨#[98]⟩, ⟨#[]⟩, false, 0, 0⟩, ⟨9, ⟨#[]⟩, ⟨#[]⟩, false, 0, 0⟩]
theorem al17a : parse_Parse.f 12 ⟨#[97, 123, 123, 105, 102, 32, 46, 116, 125, 125, 98, 123, 123, 101, 110, 100, 125, 125]⟩ = some (al17l, 18, 0) := by
  rw [parseK_is]; kernel_rfl
theorem al17b : codeF al17l = (al17c, 0, 0) := by kernel_rfl
end Go.Proofs.YtkpnfejfbmandaaDoor.Px

/- compile: every instruction of the code is in order (plain law). -/
namespace Go.Proofs.YtkpnfejfbmandaaDoor.Px
open Go.RowKit Go.Proofs.YtkpnfejfbmandaaDoorW.PrintWords Go.Proofs.YtkpnfejfbmandaaDoorW.PrintLast Go.Proofs.YtkpnfejfbmandaaDoorW.PrintMore
set_option linter.unusedVariables false
set_option linter.unusedSimpArgs false
abbrev PathOk (p : ByteArray) : Prop := pathL p.data.toList = true ∧ p.size ≤ 65536
/-- Instruction i of the code C is in order. -/
inductive InsOk (C : List S40) (i : Nat) : S40 → Prop
  | text (s : ByteArray) (h : s.size ≤ 65536) : InsOk C i ⟨0, s, e0, false, 0, 0⟩
  | print (p : ByteArray) (k : Int) (hp : PathOk p) (h0 : 0 ≤ k) (h1 : k ≤ 4) : InsOk C i ⟨1, e0, p, false, k, 0⟩
  | jif (p : ByteArray) (t : Nat) (hp : PathOk p) (h0 : i < t) (h1 : t < C.length) : InsOk C i ⟨2, e0, p, false, 0, (t : Int)⟩
  | jump (t : Nat) (h0 : i < t) (h1 : t < C.length) : InsOk C i ⟨3, e0, e0, false, 0, (t : Int)⟩
  | range (p : ByteArray) (t : Nat) (hp : PathOk p) (h0 : i < t) (h1 : t < C.length) : InsOk C i ⟨4, e0, p, false, 0, (t : Int)⟩
  | next (t : Nat) (y : S40) (h0 : t < i) (hy : C[t]? = some y) (h4 : y.f0 = 4) (h5 : y.f5 = ((i + 1 : Nat) : Int)) : InsOk C i ⟨5, e0, e0, false, 0, ((t + 1 : Nat) : Int)⟩
  | call (p : ByteArray) (h : Bool) (t : Nat) (y : S40) (hp : PathOk p) (hh : h = false → p = e0) (h1 : t + 1 < C.length) (hy : C[t]? = some y) (h7 : y.f0 = 9 ∨ y.f0 = 7) : InsOk C i ⟨6, e0, p, h, 0, ((t + 1 : Nat) : Int)⟩
  | plain (k : Int) (hk : k = 7 ∨ k = 8 ∨ k = 9) : InsOk C i ⟨k, e0, e0, false, 0, 0⟩
/-- D lies in C at a. -/
def Seg (C : List S40) (a : Nat) (D : List S40) : Prop := ∀ i, i < D.length → C[a + i]? = D[i]?
theorem Seg.left {C a D E} (h : Seg C a (D ++ E)) : Seg C a D := fun i hi => by rw [h i (by rw [List.length_append]; omega), List.getElem?_append_left hi]
theorem Seg.right {C a D E} (h : Seg C a (D ++ E)) : Seg C (a + D.length) E := fun i hi => by
  rw [Nat.add_assoc, h (D.length + i) (by rw [List.length_append]; omega), List.getElem?_append_right (by omega), Nat.add_sub_cancel_left]
theorem Seg.head {C a x D} (h : Seg C a (x :: D)) : C[a]? = some x := by have := h 0 (by simp); simpa using this
theorem Seg.tail {C a x D} (h : Seg C a (x :: D)) : Seg C (a + 1) D := fun i hi => by
  have := h (i + 1) (by rw [List.length_cons]; omega)
  rw [show a + 1 + i = a + (i + 1) by omega, this, List.getElem?_cons_succ]
theorem Seg.self (C : List S40) : Seg C 0 C := fun i _ => by rw [Nat.zero_add]
/-- Where a call may jump. -/
def TgOk (C : List S40) (q : Int) : Prop := ∃ t y, q = ((t + 1 : Nat) : Int) ∧ t + 1 < C.length ∧ C[t]? = some y ∧ (y.f0 = 9 ∨ y.f0 = 7)
/-- All of D, at address a. -/
def AllOk (C : List S40) (a : Nat) (D : List S40) : Prop := ∀ i x, D[i]? = some x → InsOk C (a + i) x
theorem AllOk.nil (C a) : AllOk C a [] := fun i x h => by simp at h
theorem AllOk.append {C a D E} (h : AllOk C a D) (k : AllOk C (a + D.length) E) : AllOk C a (D ++ E) := fun i x hx => by
  by_cases hi : i < D.length
  · exact h i x (by rw [List.getElem?_append_left hi] at hx; exact hx)
  · rw [List.getElem?_append_right (by omega)] at hx
    have := k _ x hx
    rwa [show a + D.length + (i - D.length) = a + i by omega] at this
theorem AllOk.cons {C a x D} (h : InsOk C a x) (k : AllOk C (a + 1) D) : AllOk C a (x :: D) := fun i y hy => by
  cases i with
  | zero => obtain rfl : x = y := by simpa using hy
            exact h
  | succ i =>
    have := k i y (by simpa using hy)
    rwa [show a + 1 + i = a + (i + 1) by omega] at this
theorem AllOk.one {C a x} (h : InsOk C a x) : AllOk C a [x] := AllOk.cons h (AllOk.nil _ _)
def EscOk (es : List Int) : Prop := ∀ e ∈ es, 0 ≤ e ∧ e ≤ 4
theorem EscOk.drop {es : List Int} (h : EscOk es) (n : Nat) : EscOk (es.drop n) := fun e he => h e (List.mem_of_mem_drop he)
theorem EscOk.take {es : List Int} (h : EscOk es) (n : Nat) : EscOk (es.take n) := fun e he => h e (List.mem_of_mem_take he)
theorem EscOk.head {es : List Int} (h : EscOk es) : 0 ≤ rdOf 0 es 0 ∧ rdOf 0 es 0 ≤ 4 := by
  cases es with
  | nil => simp [rdOf]
  | cons e es => exact h e List.mem_cons_self
theorem tk_path {t : S76} (h : Tk t) : PathOk t.f3 := ⟨h.path, h.s3⟩
theorem cS_split {x : S78} {xs : List S78} {ns : List ByteArray} (h : cS (x :: xs) ns = none) : cN x ns = none ∧ cS xs ns = none := by
  rw [cS] at h
  cases hx : cN x ns with
  | none => rw [hx] at h; exact ⟨rfl, h⟩
  | some a => rw [hx] at h; cases h
theorem cN_split {x : S78} {ns : List ByteArray} (h : cN x ns = none) : (x.f0 = 4 → inN ns x.f2 = true) ∧ cS x.f6 ns = none ∧ cS x.f7 ns = none := by
  obtain ⟨k, a, S, nm, f4, f5, b, l⟩ := x
  rw [cN] at h
  dsimp only
  split at h
  · cases h
  · rename_i hq
    cases hb : cS b ns with
    | some a => rw [hb] at h; cases h
    | none =>
      rw [hb] at h
      refine ⟨fun hk => ?_, rfl, h⟩
      subst hk
      simpa using hq
mutual
theorem codL_ok (C : List S40) (tg : ByteArray → Int) (ns : List ByteArray) (hT : ∀ S, inN ns S = true → TgOk C (tg S)) : ∀ {top : Bool} (l : List S78) (a : Nat) (es : List Int), wfL top l → cS l ns = none → EscOk es → Seg C a (codL tg l a es) → a + szL l < C.length → AllOk C a (codL tg l a es)
  | _, [], a, es, _, _, _, _, _ => by rw [codL]; exact AllOk.nil _ _
  | top, x :: xs, a, es, hw, hc, he, hs, hl => by
    rw [codL] at hs ⊢
    rw [szL] at hl
    obtain ⟨c1, c2⟩ := cS_split hc
    refine AllOk.append (codN_ok C tg ns hT x a es hw.1 c1 he hs.left (by omega)) ?_
    have h2 := hs.right
    rw [codN_len] at h2 ⊢
    exact codL_ok C tg ns hT xs _ _ hw.2 c2 (he.drop _) h2 (by omega)
theorem codN_ok (C : List S40) (tg : ByteArray → Int) (ns : List ByteArray) (hT : ∀ S, inN ns S = true → TgOk C (tg S)) : ∀ {top : Bool} (x : S78) (a : Nat) (es : List Int), wfN top x → cN x ns = none → EscOk es → Seg C a (codN tg x a es) → a + szN x < C.length → AllOk C a (codN tg x a es)
  | top, ⟨k, at_, S, nm, f4, f5, b, l⟩, a, es, hw, hc, he, hs, hl => by
    have W := wfN_iff.1 hw
    have tk : PathOk nm := tk_path W.tk
    obtain ⟨c1, c2, c3⟩ := cN_split hc
    dsimp only at c1 c2 c3
    rw [codN] at hs ⊢
    rw [szN] at hl
    by_cases h0 : k = 0
    · rw [if_pos h0] at hs ⊢
      exact AllOk.one (.text S W.tk.s2)
    rw [if_neg h0] at hs ⊢
    by_cases h1 : k = 1
    · rw [if_pos h1] at hs ⊢
      exact AllOk.one (.print nm _ tk he.head.1 he.head.2)
    rw [if_neg h1] at hs ⊢
    by_cases h2 : k = 2
    · rw [if_pos h2] at hs ⊢
      rw [if_neg (by omega), if_pos h2] at hl
      cases f5
      · rw [if_neg (by decide)] at hs ⊢
        rw [if_neg (by decide)] at hl
        refine AllOk.cons (.jif nm _ tk (by omega) (by omega)) ?_
        exact codL_ok C tg ns hT b _ _ W.b c2 he hs.tail (by omega)
      · rw [if_pos rfl] at hs hl ⊢
        have s1 := hs.tail.left
        have s2 := hs.tail.right
        rw [codL_len] at s2
        have s3 := s2.tail
        rw [show a + 1 + szL b + 1 = a + szL b + 2 by omega] at s3
        refine AllOk.cons (.jif nm _ tk (by omega) (by omega)) ?_
        refine AllOk.append (codL_ok C tg ns hT b _ _ W.b c2 he s1 (by omega)) ?_
        rw [codL_len]
        refine AllOk.cons (.jump _ (by omega) (by omega)) ?_
        rw [show a + 1 + szL b + 1 = a + szL b + 2 by omega]
        exact codL_ok C tg ns hT l _ _ W.l c3 (he.drop _) s3 (by omega)
    rw [if_neg h2] at hs ⊢
    by_cases h3 : k = 3
    · rw [if_pos h3] at hs ⊢
      rw [if_neg (by omega), if_neg h2, if_pos h3] at hl
      refine AllOk.cons (.range nm _ tk (by omega) (by omega)) ?_
      refine AllOk.append (codL_ok C tg ns hT b _ _ W.b c2 he hs.tail.left (by omega)) ?_
      rw [codL_len]
      exact AllOk.one (.next a _ (by omega) hs.head rfl (by show ((a + szL b + 2 : Nat) : Int) = _; omega))
    rw [if_neg h3] at hs ⊢
    by_cases h4 : k = 4
    · rw [if_pos h4] at hs ⊢
      obtain ⟨t, y, e1, e2, e3, e4⟩ := hT S (c1 h4)
      rw [e1]
      exact AllOk.one (.call nm f4 t y tk (fun h => W.tk.none_ h) e2 e3 e4)
    rw [if_neg h4] at hs ⊢
    by_cases h5 : k = 5
    · rw [if_pos h5] at hs ⊢
      exact AllOk.one (.plain 8 (by decide))
    rw [if_neg h5] at hs ⊢
    exact AllOk.nil _ _
end
theorem topC_ok (C : List S40) (tg : ByteArray → Int) (ns : List ByteArray) (hT : ∀ S, inN ns S = true → TgOk C (tg S)) : ∀ {top : Bool} (l : List S78) (a : Nat) (es : List Int), wfL top l → cS l ns = none → EscOk es → Seg C a (topC tg l a es) → a + szL l < C.length → AllOk C a (topC tg l a es)
  | _, [], a, es, _, _, _, _, _ => by rw [topC]; exact AllOk.nil _ _
  | top, x :: xs, a, es, hw, hc, he, hs, hl => by
    rw [topC] at hs ⊢
    rw [szL] at hl
    obtain ⟨c1, c2⟩ := cS_split hc
    refine AllOk.append (codN_ok C tg ns hT x a _ hw.1 c1 (he.take _) hs.left (by omega)) ?_
    have h2 := hs.right
    rw [codN_len] at h2 ⊢
    exact topC_ok C tg ns hT xs _ _ hw.2 c2 (he.drop _) h2 (by omega)
theorem defC_ok (C : List S40) (tg : ByteArray → Int) (ns : List ByteArray) (hT : ∀ S, inN ns S = true → TgOk C (tg S)) : ∀ {top : Bool} (l : List S78) (a : Nat) (es : List Int), wfL top l → cS l ns = none → EscOk es → Seg C a (defC tg l a es) → a + defZ l ≤ C.length → AllOk C a (defC tg l a es)
  | _, [], a, es, _, _, _, _, _ => by rw [defC]; exact AllOk.nil _ _
  | top, x :: xs, a, es, hw, hc, he, hs, hl => by
    obtain ⟨c1, c2⟩ := cS_split hc
    rw [defC] at hs ⊢
    rw [defZ] at hl
    by_cases h6 : x.f0 = 6
    · rw [if_pos h6] at hs hl ⊢
      have hx := hw.1
      rw [wfN_iff] at hx
      refine AllOk.append (codL_ok C tg ns hT x.f6 a _ hx.b (cN_split c1).2.1 (he.take _) hs.left (by omega)) ?_
      have h2 := hs.right
      rw [codL_len] at h2 ⊢
      refine AllOk.cons (.plain 7 (by decide)) ?_
      exact defC_ok C tg ns hT xs _ _ hw.2 c2 (he.drop _) h2.tail (by omega)
    · rw [if_neg h6] at hs hl ⊢
      exact defC_ok C tg ns hT xs _ _ hw.2 c2 (he.drop _) hs hl
/-- The addresses of the definitions. -/
theorem defA_ok (C : List S40) (tg : ByteArray → Int) : ∀ (l : List S78) (a : Nat) (es : List Int) (y : S40), Seg C (a + 1) (defC tg l (a + 1) es) → a + 1 + defZ l ≤ C.length → C[a]? = some y → (y.f0 = 9 ∨ y.f0 = 7) → ∀ q ∈ defA l (a + 1), TgOk C q.2
  | [], a, es, y, _, _, _, _, q, hq => by rw [defA] at hq; cases hq
  | x :: xs, a, es, y, hs, hl, hy, h7, q, hq => by
    rw [defC] at hs
    rw [defZ] at hl
    rw [defA] at hq
    by_cases h6 : x.f0 = 6
    · rw [if_pos h6] at hs hl hq
      rcases List.mem_cons.1 hq with rfl | hq
      · exact ⟨a, y, rfl, by omega, hy, h7⟩
      · have h2 := hs.right
        rw [codL_len] at h2
        have e : a + 1 + szL x.f6 + 1 = (a + 1 + szL x.f6) + 1 := rfl
        exact defA_ok C tg xs (a + 1 + szL x.f6) (es.drop (prN x)) ⟨7, e0, e0, false, 0, 0⟩ h2.tail (by omega) h2.head (.inr rfl) q hq
    · rw [if_neg h6] at hs hl hq
      exact defA_ok C tg xs a _ y hs hl hy h7 q hq
theorem adOf_mem {ad : List (ByteArray × Int)} {s : ByteArray} (h : ∃ p ∈ ad, p.1.data.toList = s.data.toList) : ∃ p ∈ ad, adOf ad s = p.2 := by
  suffices ∀ (r : List (ByteArray × Int)), (∃ p ∈ r.reverse, p.1.data.toList = s.data.toList) → ∃ p ∈ r.reverse, adOf r.reverse s = p.2 by
    have := this ad.reverse
    rw [List.reverse_reverse] at this
    exact this h
  intro r
  induction r with
  | nil => rintro ⟨p, hp, _⟩; cases hp
  | cons p r ih =>
    rintro ⟨q, hq, hqs⟩
    rw [List.reverse_cons] at hq ⊢
    rw [adOf_snoc]
    by_cases e : p.1.data.toList = s.data.toList
    · exact ⟨p, by simp, by rw [if_pos e]⟩
    · rw [if_neg e]
      rcases List.mem_append.1 hq with hq | hq
      · obtain ⟨p2, h1, h2⟩ := ih ⟨q, hq, hqs⟩
        exact ⟨p2, List.mem_append_left _ h1, h2⟩
      · rw [List.mem_singleton] at hq
        subst hq
        exact absurd hqs e
theorem dS_names : ∀ (l : List S78) (n0 ns : List ByteArray) (a : Nat), dS l n0 = .ok ns → ns = n0 ++ (defA l a).map (·.1)
  | [], n0, ns, a, h => by rw [dS] at h; cases h; simp [defA]
  | x :: xs, n0, ns, a, h => by
    rw [dS] at h
    rw [defA]
    by_cases h6 : x.f0 = 6
    · rw [if_pos h6] at h ⊢
      split at h
      · cases h
      · split at h
        · cases h
        · rw [dS_names xs _ ns (a + szL x.f6 + 1) h]; simp
    · rw [if_neg h6] at h ⊢
      exact dS_names xs n0 ns a h
theorem codeS_len (l : List S78) (es : List Int) : (codeS l es).length = szL l + 1 + defZ l := by
  rw [codeS_is, List.length_append, List.length_cons, topC_len, defC_len]; omega
theorem dS_err : ∀ (l : List S78) (n0 : List ByteArray) (e : Int × Int), dS l n0 = .error e → e.2 ≠ 0
  | [], n0, e, h => by rw [dS] at h; cases h
  | x :: xs, n0, e, h => by
    rw [dS] at h
    split at h
    · split at h
      · cases h; show (12 : Int) ≠ 0; decide
      · split at h
        · cases h; show (14 : Int) ≠ 0; decide
        · exact dS_err xs _ e h
    · exact dS_err xs n0 e h
/-- Every instruction is in order. -/
theorem codeS_ok {l : List S78} {es : List Int} (hw : wfL true l) (hc : (checkF l).2 = 0) (he : EscOk es) : AllOk (codeS l es) 0 (codeS l es) := by
  obtain ⟨ns, h1, h2⟩ : ∃ ns, dS l [] = .ok ns ∧ cS l ns = none := by
    unfold checkF at hc
    cases hd : dS l [] with
    | error e =>
      rw [hd] at hc
      exact absurd hc (dS_err l _ e hd)
    | ok ns =>
      rw [hd] at hc
      refine ⟨ns, rfl, ?_⟩
      cases hs : cS l ns with
      | none => rfl
      | some a => dsimp only at hc; rw [hs] at hc; cases hc
  have hlen := codeS_len l es
  have hseg := Seg.self (codeS l es)
  rw [show Seg (codeS l es) 0 (codeS l es) = Seg (codeS l es) 0 (topC (tgO l) l 0 es ++ ⟨9, e0, e0, false, 0, 0⟩ :: defC (tgO l) l (szL l + 1) es) from congrArg (Seg (codeS l es) 0) (codeS_is l es)] at hseg
  have s2 := hseg.right
  rw [topC_len, Nat.zero_add] at s2
  have hT : ∀ S, inN ns S = true → TgOk (codeS l es) (tgO l S) := by
    intro S hS
    have hn := dS_names l [] ns (szL l + 1) h1
    rw [List.nil_append] at hn
    unfold inN at hS
    rw [hn, List.any_map, List.any_eq_true] at hS
    obtain ⟨p, hp, hpe⟩ := hS
    obtain ⟨p2, hp2, e2⟩ := adOf_mem (ad := defA l (szL l + 1)) (s := S) ⟨p, hp, by simpa using hpe⟩
    unfold tgO
    rw [e2]
    exact defA_ok _ (tgO l) l (szL l) es _ s2.tail (by omega) s2.head (.inl rfl) p2 hp2
  have := AllOk.append (topC_ok _ (tgO l) ns hT l 0 es hw h2 he hseg.left (by omega)) (E := ⟨9, e0, e0, false, 0, 0⟩ :: defC (tgO l) l (szL l + 1) es) (by
    rw [topC_len, Nat.zero_add]
    exact AllOk.cons (.plain 9 (by decide)) (defC_ok _ (tgO l) ns hT l _ es hw h2 he s2.tail (by omega)))
  rwa [← codeS_is] at this
/-- The escapers. -/
theorem escF_ok (s : HS) : 0 ≤ (escF s).1 ∧ (escF s).1 ≤ 4 := by
  unfold escF
  repeat' split
  all_goals exact ⟨by decide, by decide⟩
theorem failI_esc {st : IS} (h : EscOk st.1) (a e : Int) : EscOk (failI st a e).1 := by unfold failI; split <;> exact h
theorem expI_esc {st : IS} (h : EscOk st.1) (a : Int) (g w : HS) (e : Int) : EscOk (expI st a g w e).1 := by unfold expI; split; exact h; exact failI_esc h _ _
mutual
theorem iL_esc : ∀ (l : List S78) (s : HS) (st : IS), EscOk st.1 → EscOk (iL l s st).2.1
  | [], s, st, h => by rw [iL]; exact h
  | x :: xs, s, st, h => by
    rw [iL]
    split
    · exact iL_esc xs _ _ (iN_esc x s st h)
    · exact h
theorem iN_esc : ∀ (x : S78) (s : HS) (st : IS), EscOk st.1 → EscOk (iN x s st).2.1
  | ⟨k, a, S, p, hh, f5, b, l⟩, s, st, h => by
    rw [iN]
    by_cases h0 : k = 0
    · rw [if_pos h0]; exact h
    rw [if_neg h0]
    by_cases h1 : k = 1
    · rw [if_pos h1]
      intro e he
      rcases List.mem_append.1 he with he | he
      · revert he
        split
        · exact h e
        · exact failI_esc h _ _ e
      · rw [List.mem_singleton] at he
        rw [he]
        exact escF_ok s
    rw [if_neg h1]
    by_cases h4 : k = 4
    · rw [if_pos h4]; exact expI_esc h _ _ _ _
    rw [if_neg h4]
    by_cases h2 : k = 2
    · rw [if_pos h2]; exact expI_esc (iL_esc l _ _ (iL_esc b _ _ h)) _ _ _ _
    rw [if_neg h2]
    by_cases h3 : k = 3
    · rw [if_pos h3]; exact expI_esc (iL_esc b _ _ h) _ _ _ _
    rw [if_neg h3]
    by_cases h6 : k = 6
    · rw [if_pos h6]; exact expI_esc (iL_esc b _ _ h) _ _ _ _
    rw [if_neg h6]; exact h
end
theorem infer_esc (l : List S78) : EscOk (inferF l).1 := by
  have h0 : EscOk (iL l hz ([], 0, 0)).2.1 := iL_esc l _ _ (fun e he => by cases he)
  unfold inferF
  split
  · show EscOk (inferE l).1
    unfold inferE
    split
    · exact h0
    · exact expI_esc h0 _ _ _ _
  · exact fun e he => by cases he
/-- The code that Compile answers. -/
theorem comp_ok {s : ByteArray} {r : List S78 × Int × Int} (h : Ev (fun k => parse_Parse.f k s) r) (he : (compF r).2.2 = 0) : r.2.2 = 0 ∧ (checkF r.1).2 = 0 ∧ (inferF r.1).2.2 = 0 ∧ compF r = (codeS r.1 (inferF r.1).1, 0, 0) ∧ AllOk (compF r).1 0 (compF r).1 := by
  obtain ⟨hw, hn⟩ := parsed_ok h
  unfold compF at he ⊢
  by_cases h1 : r.2.2 = 0
  · rw [if_pos h1] at he ⊢
    unfold codeF at he ⊢
    by_cases h2 : (checkF r.1).2 = 0
    · rw [if_pos h2] at he ⊢
      by_cases h3 : (inferF r.1).2.2 = 0
      · rw [if_pos h3]
        exact ⟨h1, h2, h3, rfl, codeS_ok hw h2 (infer_esc _)⟩
      · rw [if_neg h3] at he; exact absurd he h3
    · rw [if_neg h2] at he; exact absurd he h2
  · rw [if_neg h1] at he; exact absurd he h1
end Go.Proofs.YtkpnfejfbmandaaDoor.Px

/- tmplpipelaw17.alive. -/
namespace Go.Proofs.YtkpnfejfbmandaaDoor.Px
open Go.RowKit Go.Proofs.YtkpnfejfbmandaaDoorW.PrintWords Go.Proofs.YtkpnfejfbmandaaDoorW.PrintLast Go.Proofs.YtkpnfejfbmandaaDoorW.PrintMore
set_option linter.unusedVariables false
set_option linter.unusedSimpArgs false
def insC (x : S40) : List Value := [.int .i64 x.f0, .string x.f1, .string x.f2, .bool x.f3, .int .i64 x.f4, .int .i64 x.f5]
theorem C_lit4 {W : World} {B : Nat} (x0 x1 x2 x3 : S40) (hb : W.heap[B]? = some (.cells (insC x0 ++ insC x1 ++ insC x2 ++ insC x3).toArray 40 (0, 0))) : Kd.C k40 W (some ⟨B, 0, none⟩) [x0, x1, x2, x3].length [x0, x1, x2, x3] := by
  refine ⟨rfl, by simp, fun _ => ⟨⟨B, 0, none⟩, rfl, fun j p hj => ⟨insC p, rfl, k40_mk W p, fun i u hu => ?_⟩⟩⟩
  have hi : i < 6 := by have := (List.getElem?_eq_some_iff.1 hu).1; simpa [insC] using this
  have hc := blk_cell hb (j * 6 + i)
  have e : (⟨B, 0, none⟩ : Addr).add (j * k40.sz + i) = ⟨B, j * 6 + i, none⟩ := by
    show (⟨B, 0, none⟩ : Addr).add (j * 6 + i) = _
    unfold Addr.add
    simp
    try (intro h; omega)
  rw [e, hc]
  match j, hj with
  | 0, hj =>
    obtain rfl : x0 = p := by simpa using hj
    rw [← hu]
    match i, hi with
    | 0, _ | 1, _ | 2, _ | 3, _ | 4, _ | 5, _ => rfl
  | 1, hj =>
    obtain rfl : x1 = p := by simpa using hj
    rw [← hu]
    match i, hi with
    | 0, _ | 1, _ | 2, _ | 3, _ | 4, _ | 5, _ => rfl
  | 2, hj =>
    obtain rfl : x2 = p := by simpa using hj
    rw [← hu]
    match i, hi with
    | 0, _ | 1, _ | 2, _ | 3, _ | 4, _ | 5, _ => rfl
  | 3, hj =>
    obtain rfl : x3 = p := by simpa using hj
    rw [← hu]
    match i, hi with
    | 0, _ | 1, _ | 2, _ | 3, _ | 4, _ | 5, _ => rfl
  | j + 4, hj => simp at hj
set_option maxHeartbeats 1000000 in
set_option maxRecDepth 100000 in
theorem alive17_any (w : World) (hG : GS w) : Calls Tryd.prog 14 #[] w fun e w' => e = .returned (.bool true) ∧ Below w.heap.size w w' := by
  have hco := Aside0.mk (compile_any (parse_12 al17a) w hG)
  have hcf : compF (al17l, 18, 0) = (al17c, 0, 0) := by unfold compF; rw [if_pos rfl]; exact al17b
  rw [hcf] at hco
  replace hcf := Aside0.mk hcf
  clear hG
  go_enter Tryd.func14, Tryd.ntmps14
  go_wp2_with (first | (go_at_call 15; refine hco.out.mono ?_; rintro ee w1 ⟨v, rfl, HR, HB⟩; obtain ⟨A, c, rfl⟩ := Kd.R_slice HR; have hC := Aside0.mk (Kd.R_reads' HR).2.2; replace HB := Aside0.mk HB) | (go_at_call 23; refine (equal_ins al17c al17c A (some ⟨w1.heap.size, 0, none⟩) c 4 _ (Kd.C_below hC.out (below_alloc (Below.refl _ _) _)) (C_lit4 ⟨0, ⟨#[97]⟩, ⟨#[]⟩, false, 0, 0⟩ ⟨2, ⟨#[]⟩, ⟨#[116]⟩, false, 0, 3⟩ ⟨0, ⟨#[98]⟩, ⟨#[]⟩, false, 0, 0⟩ ⟨9, ⟨#[]⟩, ⟨#[]⟩, false, 0, 0⟩ (blk_new _ _))).mono ?_; rintro ee w2 ⟨⟨b, rfl, hb⟩, HB2⟩; obtain rfl : b = true := hb.2 rfl; replace HB2 := Aside0.mk HB2))
  go_ret
  exact ⟨rfl, below_step HB.out (below_step (below_alloc (Below.refl _ _) _) HB2.out)⟩
end Go.Proofs.YtkpnfejfbmandaaDoor.Px
