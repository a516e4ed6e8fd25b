import Derived.Test.YtkpnfejfbmandaaDoorCIM6
import Derived.StillTailTactics
/- htmlctx: name, value. -/
namespace Go.Proofs.YtkpnfejfbmandaaDoor.Px
open Go.RowKit Go.Proofs.YtkpnfejfbmandaaDoorW.PrintWords Go.Proofs.YtkpnfejfbmandaaDoorW.PrintLast Go.Proofs.YtkpnfejfbmandaaDoorW.PrintMore
set_option linter.unusedVariables false
set_option linter.unusedSimpArgs false
def nameF (s : HS) (c : Int) : HS :=
  if (c == 47 || (s.c == 2 && spF c)) = true then s.w 1 else if s.c == 2 then ⟨s.c, addF s.n c, s.a, s.p⟩ else if (s.c == 1 && spF c) = true then s else if spF c then ⟨4, s.n, s.a, s.p⟩
  else if (s.c != 1 && c == 61) = true then ⟨5, s.n, s.a, s.p⟩ else if s.c == 3 then ⟨3, s.n, addF s.a c, s.p⟩ else ⟨3, s.n, addF ⟨#[]⟩ c, ⟨#[]⟩⟩
set_option maxHeartbeats 8000000 in
set_option maxRecDepth 100000 in
theorem name_any (s : HS) (c : Int) (h0 : 0 ≤ c) (h9 : c ≤ 255) (hk : s.c = 1 ∨ s.c = 2 ∨ s.c = 3 ∨ s.c = 4) (hn : s.n.size < 1000000) (ha : s.a.size < 1000000) (w : World) : Calls Tryd.prog 117 #[.agg #[.int .i64 s.c, .string s.n, .string s.a, .string s.p], .int .u8 c] w fun e w' => e = .returned (.agg #[.int .i64 (nameF s c).c, .string (nameF s c).n, .string (nameF s c).a, .string (nameF s c).p]) ∧ Below w.heap.size w w' := by
  obtain ⟨r, hr⟩ : ∃ r, r = Value.agg #[.int .i64 (nameF s c).c, .string (nameF s c).n, .string (nameF s c).a, .string (nameF s c).p] := ⟨_, rfl⟩
  rw [← hr]
  replace hr := Aside0.mk hr
  obtain ⟨k, n, a, p⟩ := s
  simp only at hk hr hn ha ⊢
  rcases hk with rfl | rfl | rfl | rfl
  · cases c47 : (c == 47)
    · cases sp : (spF c)
      · have hf : (((⟨#[]⟩ : ByteArray).size : Int) == 16) = false := rfl
        have hee : (⟨#[]⟩ : ByteArray).size < 1000000 := by decide
        go_enter Tryd.func117, Tryd.ntmps117
        go_wp2_with (first | (go_at_call 118; refine (space_any _ h0 h9 _).mono ?_; rintro e w1 ⟨rfl, rfl⟩) | (go_at_call 114; refine (with_any ⟨_, n, a, p⟩ _ _).mono ?_; rintro e w1 ⟨rfl, o1, o2, rfl⟩) | (go_at_call 122; refine (add_full ⟨#[]⟩ _ hf _).mono ?_; rintro e w1 ⟨rfl, rfl⟩) | (go_at_call 122; refine (add_more ⟨#[]⟩ _ h0 h9 (by assumption) hf _).mono ?_; rintro e w1 ⟨rfl, o3, rfl⟩))
        exact ret88 rfl rfl rfl rfl (by repeat (first | exact blk_n1 _ _ _ | refine blk_alloc ?_ _)) ⟨by rw [hr.out]; simp [nameF, HS.w, *], by repeat (first | exact Below.refl _ _ | apply below_alloc)⟩
      · go_enter Tryd.func117, Tryd.ntmps117
        go_wp2_with (first | (go_at_call 118; refine (space_any _ h0 h9 _).mono ?_; rintro e w1 ⟨rfl, rfl⟩) | (go_at_call 114; refine (with_any ⟨_, n, a, p⟩ _ _).mono ?_; rintro e w1 ⟨rfl, o1, o2, rfl⟩) | (go_at_call 122; refine (add_full ⟨#[]⟩ _ hf _).mono ?_; rintro e w1 ⟨rfl, rfl⟩) | (go_at_call 122; refine (add_more ⟨#[]⟩ _ h0 h9 (by assumption) hf _).mono ?_; rintro e w1 ⟨rfl, o3, rfl⟩))
        exact ret88 rfl rfl rfl rfl (by repeat (first | exact blk_n1 _ _ _ | refine blk_alloc ?_ _)) ⟨by rw [hr.out]; simp [nameF, HS.w, *], by repeat (first | exact Below.refl _ _ | apply below_alloc)⟩
    · obtain rfl : c = 47 := eq_of_beq c47
      go_enter Tryd.func117, Tryd.ntmps117
      go_wp2_with (first | (go_at_call 118; refine (space_any _ h0 h9 _).mono ?_; rintro e w1 ⟨rfl, rfl⟩) | (go_at_call 114; refine (with_any ⟨_, n, a, p⟩ _ _).mono ?_; rintro e w1 ⟨rfl, o1, o2, rfl⟩) | (go_at_call 122; refine (add_full ⟨#[]⟩ _ hf _).mono ?_; rintro e w1 ⟨rfl, rfl⟩) | (go_at_call 122; refine (add_more ⟨#[]⟩ _ h0 h9 (by assumption) hf _).mono ?_; rintro e w1 ⟨rfl, o3, rfl⟩))
      exact ret88 rfl rfl rfl rfl (by repeat (first | exact blk_n1 _ _ _ | refine blk_alloc ?_ _)) ⟨by rw [hr.out]; simp [nameF, HS.w, *], by repeat (first | exact Below.refl _ _ | apply below_alloc)⟩
  · cases c47 : (c == 47)
    · cases sp : (spF c)
      · cases hf : ((n.size : Int) == 16)
        · go_enter Tryd.func117, Tryd.ntmps117
          go_wp2_with (first | (go_at_call 118; refine (space_any _ h0 h9 _).mono ?_; rintro e w1 ⟨rfl, rfl⟩) | (go_at_call 114; refine (with_any ⟨_, n, a, p⟩ _ _).mono ?_; rintro e w1 ⟨rfl, o1, o2, rfl⟩) | (go_at_call 122; refine (add_full n _ hf _).mono ?_; rintro e w1 ⟨rfl, rfl⟩) | (go_at_call 122; refine (add_more n _ h0 h9 (by assumption) hf _).mono ?_; rintro e w1 ⟨rfl, o3, rfl⟩))
          exact ret88 rfl rfl rfl rfl (by repeat (first | exact blk_n1 _ _ _ | refine blk_alloc ?_ _)) ⟨by rw [hr.out]; simp [nameF, HS.w, *], by repeat (first | exact Below.refl _ _ | apply below_alloc)⟩
        · go_enter Tryd.func117, Tryd.ntmps117
          go_wp2_with (first | (go_at_call 118; refine (space_any _ h0 h9 _).mono ?_; rintro e w1 ⟨rfl, rfl⟩) | (go_at_call 114; refine (with_any ⟨_, n, a, p⟩ _ _).mono ?_; rintro e w1 ⟨rfl, o1, o2, rfl⟩) | (go_at_call 122; refine (add_full n _ hf _).mono ?_; rintro e w1 ⟨rfl, rfl⟩) | (go_at_call 122; refine (add_more n _ h0 h9 (by assumption) hf _).mono ?_; rintro e w1 ⟨rfl, o3, rfl⟩))
          exact ret88 rfl rfl rfl rfl (by repeat (first | exact blk_n1 _ _ _ | refine blk_alloc ?_ _)) ⟨by rw [hr.out]; simp [nameF, HS.w, *], by repeat (first | exact Below.refl _ _ | apply below_alloc)⟩
      · go_enter Tryd.func117, Tryd.ntmps117
        go_wp2_with (first | (go_at_call 118; refine (space_any _ h0 h9 _).mono ?_; rintro e w1 ⟨rfl, rfl⟩) | (go_at_call 114; refine (with_any ⟨_, n, a, p⟩ _ _).mono ?_; rintro e w1 ⟨rfl, o1, o2, rfl⟩) | (go_at_call 122; refine (add_full n _ hf _).mono ?_; rintro e w1 ⟨rfl, rfl⟩) | (go_at_call 122; refine (add_more n _ h0 h9 (by assumption) hf _).mono ?_; rintro e w1 ⟨rfl, o3, rfl⟩))
        exact ret88 rfl rfl rfl rfl (by repeat (first | exact blk_n1 _ _ _ | refine blk_alloc ?_ _)) ⟨by rw [hr.out]; simp [nameF, HS.w, *], by repeat (first | exact Below.refl _ _ | apply below_alloc)⟩
    · obtain rfl : c = 47 := eq_of_beq c47
      go_enter Tryd.func117, Tryd.ntmps117
      go_wp2_with (first | (go_at_call 118; refine (space_any _ h0 h9 _).mono ?_; rintro e w1 ⟨rfl, rfl⟩) | (go_at_call 114; refine (with_any ⟨_, n, a, p⟩ _ _).mono ?_; rintro e w1 ⟨rfl, o1, o2, rfl⟩) | (go_at_call 122; refine (add_full n _ hf _).mono ?_; rintro e w1 ⟨rfl, rfl⟩) | (go_at_call 122; refine (add_more n _ h0 h9 (by assumption) hf _).mono ?_; rintro e w1 ⟨rfl, o3, rfl⟩))
      exact ret88 rfl rfl rfl rfl (by repeat (first | exact blk_n1 _ _ _ | refine blk_alloc ?_ _)) ⟨by rw [hr.out]; simp [nameF, HS.w, *], by repeat (first | exact Below.refl _ _ | apply below_alloc)⟩
  · cases c47 : (c == 47)
    · cases sp : (spF c)
      · cases c61 : (c == 61)
        · cases hf : ((a.size : Int) == 16)
          · go_enter Tryd.func117, Tryd.ntmps117
            go_wp2_with (first | (go_at_call 118; refine (space_any _ h0 h9 _).mono ?_; rintro e w1 ⟨rfl, rfl⟩) | (go_at_call 114; refine (with_any ⟨_, n, a, p⟩ _ _).mono ?_; rintro e w1 ⟨rfl, o1, o2, rfl⟩) | (go_at_call 122; refine (add_full a _ hf _).mono ?_; rintro e w1 ⟨rfl, rfl⟩) | (go_at_call 122; refine (add_more a _ h0 h9 (by assumption) hf _).mono ?_; rintro e w1 ⟨rfl, o3, rfl⟩))
            exact ret88 rfl rfl rfl rfl (by repeat (first | exact blk_n1 _ _ _ | refine blk_alloc ?_ _)) ⟨by rw [hr.out]; simp [nameF, HS.w, *], by repeat (first | exact Below.refl _ _ | apply below_alloc)⟩
          · go_enter Tryd.func117, Tryd.ntmps117
            go_wp2_with (first | (go_at_call 118; refine (space_any _ h0 h9 _).mono ?_; rintro e w1 ⟨rfl, rfl⟩) | (go_at_call 114; refine (with_any ⟨_, n, a, p⟩ _ _).mono ?_; rintro e w1 ⟨rfl, o1, o2, rfl⟩) | (go_at_call 122; refine (add_full a _ hf _).mono ?_; rintro e w1 ⟨rfl, rfl⟩) | (go_at_call 122; refine (add_more a _ h0 h9 (by assumption) hf _).mono ?_; rintro e w1 ⟨rfl, o3, rfl⟩))
            exact ret88 rfl rfl rfl rfl (by repeat (first | exact blk_n1 _ _ _ | refine blk_alloc ?_ _)) ⟨by rw [hr.out]; simp [nameF, HS.w, *], by repeat (first | exact Below.refl _ _ | apply below_alloc)⟩
        · obtain rfl : c = 61 := eq_of_beq c61
          go_enter Tryd.func117, Tryd.ntmps117
          go_wp2_with (first | (go_at_call 118; refine (space_any _ h0 h9 _).mono ?_; rintro e w1 ⟨rfl, rfl⟩) | (go_at_call 114; refine (with_any ⟨_, n, a, p⟩ _ _).mono ?_; rintro e w1 ⟨rfl, o1, o2, rfl⟩) | (go_at_call 122; refine (add_full a _ hf _).mono ?_; rintro e w1 ⟨rfl, rfl⟩) | (go_at_call 122; refine (add_more a _ h0 h9 (by assumption) hf _).mono ?_; rintro e w1 ⟨rfl, o3, rfl⟩))
          exact ret88 rfl rfl rfl rfl (by repeat (first | exact blk_n1 _ _ _ | refine blk_alloc ?_ _)) ⟨by rw [hr.out]; simp [nameF, HS.w, *], by repeat (first | exact Below.refl _ _ | apply below_alloc)⟩
      · go_enter Tryd.func117, Tryd.ntmps117
        go_wp2_with (first | (go_at_call 118; refine (space_any _ h0 h9 _).mono ?_; rintro e w1 ⟨rfl, rfl⟩) | (go_at_call 114; refine (with_any ⟨_, n, a, p⟩ _ _).mono ?_; rintro e w1 ⟨rfl, o1, o2, rfl⟩) | (go_at_call 122; refine (add_full a _ hf _).mono ?_; rintro e w1 ⟨rfl, rfl⟩) | (go_at_call 122; refine (add_more a _ h0 h9 (by assumption) hf _).mono ?_; rintro e w1 ⟨rfl, o3, rfl⟩))
        exact ret88 rfl rfl rfl rfl (by repeat (first | exact blk_n1 _ _ _ | refine blk_alloc ?_ _)) ⟨by rw [hr.out]; simp [nameF, HS.w, *], by repeat (first | exact Below.refl _ _ | apply below_alloc)⟩
    · obtain rfl : c = 47 := eq_of_beq c47
      go_enter Tryd.func117, Tryd.ntmps117
      go_wp2_with (first | (go_at_call 118; refine (space_any _ h0 h9 _).mono ?_; rintro e w1 ⟨rfl, rfl⟩) | (go_at_call 114; refine (with_any ⟨_, n, a, p⟩ _ _).mono ?_; rintro e w1 ⟨rfl, o1, o2, rfl⟩) | (go_at_call 122; refine (add_full a _ hf _).mono ?_; rintro e w1 ⟨rfl, rfl⟩) | (go_at_call 122; refine (add_more a _ h0 h9 (by assumption) hf _).mono ?_; rintro e w1 ⟨rfl, o3, rfl⟩))
      exact ret88 rfl rfl rfl rfl (by repeat (first | exact blk_n1 _ _ _ | refine blk_alloc ?_ _)) ⟨by rw [hr.out]; simp [nameF, HS.w, *], by repeat (first | exact Below.refl _ _ | apply below_alloc)⟩
  · cases c47 : (c == 47)
    · cases sp : (spF c)
      · cases c61 : (c == 61)
        · have hf : (((⟨#[]⟩ : ByteArray).size : Int) == 16) = false := rfl
          have hee : (⟨#[]⟩ : ByteArray).size < 1000000 := by decide
          go_enter Tryd.func117, Tryd.ntmps117
          go_wp2_with (first | (go_at_call 118; refine (space_any _ h0 h9 _).mono ?_; rintro e w1 ⟨rfl, rfl⟩) | (go_at_call 114; refine (with_any ⟨_, n, a, p⟩ _ _).mono ?_; rintro e w1 ⟨rfl, o1, o2, rfl⟩) | (go_at_call 122; refine (add_full ⟨#[]⟩ _ hf _).mono ?_; rintro e w1 ⟨rfl, rfl⟩) | (go_at_call 122; refine (add_more ⟨#[]⟩ _ h0 h9 (by assumption) hf _).mono ?_; rintro e w1 ⟨rfl, o3, rfl⟩))
          exact ret88 rfl rfl rfl rfl (by repeat (first | exact blk_n1 _ _ _ | refine blk_alloc ?_ _)) ⟨by rw [hr.out]; simp [nameF, HS.w, *], by repeat (first | exact Below.refl _ _ | apply below_alloc)⟩
        · obtain rfl : c = 61 := eq_of_beq c61
          go_enter Tryd.func117, Tryd.ntmps117
          go_wp2_with (first | (go_at_call 118; refine (space_any _ h0 h9 _).mono ?_; rintro e w1 ⟨rfl, rfl⟩) | (go_at_call 114; refine (with_any ⟨_, n, a, p⟩ _ _).mono ?_; rintro e w1 ⟨rfl, o1, o2, rfl⟩) | (go_at_call 122; refine (add_full ⟨#[]⟩ _ hf _).mono ?_; rintro e w1 ⟨rfl, rfl⟩) | (go_at_call 122; refine (add_more ⟨#[]⟩ _ h0 h9 (by assumption) hf _).mono ?_; rintro e w1 ⟨rfl, o3, rfl⟩))
          exact ret88 rfl rfl rfl rfl (by repeat (first | exact blk_n1 _ _ _ | refine blk_alloc ?_ _)) ⟨by rw [hr.out]; simp [nameF, HS.w, *], by repeat (first | exact Below.refl _ _ | apply below_alloc)⟩
      · go_enter Tryd.func117, Tryd.ntmps117
        go_wp2_with (first | (go_at_call 118; refine (space_any _ h0 h9 _).mono ?_; rintro e w1 ⟨rfl, rfl⟩) | (go_at_call 114; refine (with_any ⟨_, n, a, p⟩ _ _).mono ?_; rintro e w1 ⟨rfl, o1, o2, rfl⟩) | (go_at_call 122; refine (add_full ⟨#[]⟩ _ hf _).mono ?_; rintro e w1 ⟨rfl, rfl⟩) | (go_at_call 122; refine (add_more ⟨#[]⟩ _ h0 h9 (by assumption) hf _).mono ?_; rintro e w1 ⟨rfl, o3, rfl⟩))
        exact ret88 rfl rfl rfl rfl (by repeat (first | exact blk_n1 _ _ _ | refine blk_alloc ?_ _)) ⟨by rw [hr.out]; simp [nameF, HS.w, *], by repeat (first | exact Below.refl _ _ | apply below_alloc)⟩
    · obtain rfl : c = 47 := eq_of_beq c47
      go_enter Tryd.func117, Tryd.ntmps117
      go_wp2_with (first | (go_at_call 118; refine (space_any _ h0 h9 _).mono ?_; rintro e w1 ⟨rfl, rfl⟩) | (go_at_call 114; refine (with_any ⟨_, n, a, p⟩ _ _).mono ?_; rintro e w1 ⟨rfl, o1, o2, rfl⟩) | (go_at_call 122; refine (add_full ⟨#[]⟩ _ hf _).mono ?_; rintro e w1 ⟨rfl, rfl⟩) | (go_at_call 122; refine (add_more ⟨#[]⟩ _ h0 h9 (by assumption) hf _).mono ?_; rintro e w1 ⟨rfl, o3, rfl⟩))
      exact ret88 rfl rfl rfl rfl (by repeat (first | exact blk_n1 _ _ _ | refine blk_alloc ?_ _)) ⟨by rw [hr.out]; simp [nameF, HS.w, *], by repeat (first | exact Below.refl _ _ | apply below_alloc)⟩
def quotF (a : ByteArray) : Int :=
  if (a.toList == [104, 114, 101, 102] || a.toList == [115, 114, 99] || a.toList == [97, 99, 116, 105, 111, 110] || a.toList == [102, 111, 114, 109, 97, 99, 116, 105, 111, 110]) = true then 9
  else if (a.toList == [115, 116, 121, 108, 101] || a.toList == [115, 114, 99, 100, 111, 99] || Lib.hasPrefix a.data.toList [111, 110]) = true then 11 else 7
def valF (s : HS) (c : Int) : HS := if spF c then s else if c == 34 then s.w (quotF s.a) else if c == 39 then s.w (quotF s.a + 1) else s.w 6
set_option maxHeartbeats 8000000 in
set_option maxRecDepth 100000 in
theorem value_any (s : HS) (c : Int) (h0 : 0 ≤ c) (h9 : c ≤ 255) (w : World) : Calls Tryd.prog 116 #[.agg #[.int .i64 s.c, .string s.n, .string s.a, .string s.p], .int .u8 c] w fun e w' => e = .returned (.agg #[.int .i64 (valF s c).c, .string (valF s c).n, .string (valF s c).a, .string (valF s c).p]) ∧ Below w.heap.size w w' := by
  obtain ⟨r, hr⟩ : ∃ r, r = Value.agg #[.int .i64 (valF s c).c, .string (valF s c).n, .string (valF s c).a, .string (valF s c).p] := ⟨_, rfl⟩
  rw [← hr]
  replace hr := Aside0.mk hr
  obtain ⟨k, n, a, p⟩ := s
  simp only at hr ⊢
  cases sp : (spF c)
  · cases c34 : (c == 34)
    · have d34 : (c != 34) = true := by simp [bne, c34]
      cases c39 : (c == 39)
      · have d39 : (c != 39) = true := by simp [bne, c39]
        go_enter Tryd.func116, Tryd.ntmps116
        go_wp2_with (first | (go_at_call 118; refine (space_any _ h0 h9 _).mono ?_; rintro e w1 ⟨rfl, rfl⟩) | (go_at_call 114; refine (with_any ⟨_, n, a, p⟩ _ _).mono ?_; rintro e w1 ⟨rfl, o1, o2, rfl⟩) | (go_at_call 25; refine (Tryd.strings_HasPrefix a ⟨#[111, 110]⟩ _).mono ?_; rintro e w1 ⟨rfl, rfl⟩))
        exact ret88 rfl rfl rfl rfl (by repeat (first | exact blk_n1 _ _ _ | refine blk_alloc ?_ _)) ⟨by rw [hr.out]; simp [valF, quotF, HS.w, *], by repeat (first | exact Below.refl _ _ | apply below_alloc)⟩
      · obtain rfl : c = 39 := eq_of_beq c39
        cases t1 : (a.toList == [104, 114, 101, 102])
        · cases t2 : (a.toList == [115, 114, 99])
          · cases t3 : (a.toList == [97, 99, 116, 105, 111, 110])
            · cases t4 : (a.toList == [102, 111, 114, 109, 97, 99, 116, 105, 111, 110])
              · cases t5 : (a.toList == [115, 116, 121, 108, 101])
                · cases t6 : (a.toList == [115, 114, 99, 100, 111, 99])
                  · cases t7 : (Lib.hasPrefix a.data.toList [111, 110])
                    · go_enter Tryd.func116, Tryd.ntmps116
                      go_wp2_with (first | (go_at_call 118; refine (space_any _ h0 h9 _).mono ?_; rintro e w1 ⟨rfl, rfl⟩) | (go_at_call 114; refine (with_any ⟨_, n, a, p⟩ _ _).mono ?_; rintro e w1 ⟨rfl, o1, o2, rfl⟩) | (go_at_call 25; refine (Tryd.strings_HasPrefix a ⟨#[111, 110]⟩ _).mono ?_; rintro e w1 ⟨rfl, rfl⟩))
                      exact ret88 rfl rfl rfl rfl (by repeat (first | exact blk_n1 _ _ _ | refine blk_alloc ?_ _)) ⟨by rw [hr.out]; simp [valF, quotF, HS.w, *], by repeat (first | exact Below.refl _ _ | apply below_alloc)⟩
                    · go_enter Tryd.func116, Tryd.ntmps116
                      go_wp2_with (first | (go_at_call 118; refine (space_any _ h0 h9 _).mono ?_; rintro e w1 ⟨rfl, rfl⟩) | (go_at_call 114; refine (with_any ⟨_, n, a, p⟩ _ _).mono ?_; rintro e w1 ⟨rfl, o1, o2, rfl⟩) | (go_at_call 25; refine (Tryd.strings_HasPrefix a ⟨#[111, 110]⟩ _).mono ?_; rintro e w1 ⟨rfl, rfl⟩))
                      exact ret88 rfl rfl rfl rfl (by repeat (first | exact blk_n1 _ _ _ | refine blk_alloc ?_ _)) ⟨by rw [hr.out]; simp [valF, quotF, HS.w, *], by repeat (first | exact Below.refl _ _ | apply below_alloc)⟩
                  · go_enter Tryd.func116, Tryd.ntmps116
                    go_wp2_with (first | (go_at_call 118; refine (space_any _ h0 h9 _).mono ?_; rintro e w1 ⟨rfl, rfl⟩) | (go_at_call 114; refine (with_any ⟨_, n, a, p⟩ _ _).mono ?_; rintro e w1 ⟨rfl, o1, o2, rfl⟩) | (go_at_call 25; refine (Tryd.strings_HasPrefix a ⟨#[111, 110]⟩ _).mono ?_; rintro e w1 ⟨rfl, rfl⟩))
                    exact ret88 rfl rfl rfl rfl (by repeat (first | exact blk_n1 _ _ _ | refine blk_alloc ?_ _)) ⟨by rw [hr.out]; simp [valF, quotF, HS.w, *], by repeat (first | exact Below.refl _ _ | apply below_alloc)⟩
                · go_enter Tryd.func116, Tryd.ntmps116
                  go_wp2_with (first | (go_at_call 118; refine (space_any _ h0 h9 _).mono ?_; rintro e w1 ⟨rfl, rfl⟩) | (go_at_call 114; refine (with_any ⟨_, n, a, p⟩ _ _).mono ?_; rintro e w1 ⟨rfl, o1, o2, rfl⟩) | (go_at_call 25; refine (Tryd.strings_HasPrefix a ⟨#[111, 110]⟩ _).mono ?_; rintro e w1 ⟨rfl, rfl⟩))
                  exact ret88 rfl rfl rfl rfl (by repeat (first | exact blk_n1 _ _ _ | refine blk_alloc ?_ _)) ⟨by rw [hr.out]; simp [valF, quotF, HS.w, *], by repeat (first | exact Below.refl _ _ | apply below_alloc)⟩
              · go_enter Tryd.func116, Tryd.ntmps116
                go_wp2_with (first | (go_at_call 118; refine (space_any _ h0 h9 _).mono ?_; rintro e w1 ⟨rfl, rfl⟩) | (go_at_call 114; refine (with_any ⟨_, n, a, p⟩ _ _).mono ?_; rintro e w1 ⟨rfl, o1, o2, rfl⟩) | (go_at_call 25; refine (Tryd.strings_HasPrefix a ⟨#[111, 110]⟩ _).mono ?_; rintro e w1 ⟨rfl, rfl⟩))
                exact ret88 rfl rfl rfl rfl (by repeat (first | exact blk_n1 _ _ _ | refine blk_alloc ?_ _)) ⟨by rw [hr.out]; simp [valF, quotF, HS.w, *], by repeat (first | exact Below.refl _ _ | apply below_alloc)⟩
            · go_enter Tryd.func116, Tryd.ntmps116
              go_wp2_with (first | (go_at_call 118; refine (space_any _ h0 h9 _).mono ?_; rintro e w1 ⟨rfl, rfl⟩) | (go_at_call 114; refine (with_any ⟨_, n, a, p⟩ _ _).mono ?_; rintro e w1 ⟨rfl, o1, o2, rfl⟩) | (go_at_call 25; refine (Tryd.strings_HasPrefix a ⟨#[111, 110]⟩ _).mono ?_; rintro e w1 ⟨rfl, rfl⟩))
              exact ret88 rfl rfl rfl rfl (by repeat (first | exact blk_n1 _ _ _ | refine blk_alloc ?_ _)) ⟨by rw [hr.out]; simp [valF, quotF, HS.w, *], by repeat (first | exact Below.refl _ _ | apply below_alloc)⟩
          · go_enter Tryd.func116, Tryd.ntmps116
            go_wp2_with (first | (go_at_call 118; refine (space_any _ h0 h9 _).mono ?_; rintro e w1 ⟨rfl, rfl⟩) | (go_at_call 114; refine (with_any ⟨_, n, a, p⟩ _ _).mono ?_; rintro e w1 ⟨rfl, o1, o2, rfl⟩) | (go_at_call 25; refine (Tryd.strings_HasPrefix a ⟨#[111, 110]⟩ _).mono ?_; rintro e w1 ⟨rfl, rfl⟩))
            exact ret88 rfl rfl rfl rfl (by repeat (first | exact blk_n1 _ _ _ | refine blk_alloc ?_ _)) ⟨by rw [hr.out]; simp [valF, quotF, HS.w, *], by repeat (first | exact Below.refl _ _ | apply below_alloc)⟩
        · go_enter Tryd.func116, Tryd.ntmps116
          go_wp2_with (first | (go_at_call 118; refine (space_any _ h0 h9 _).mono ?_; rintro e w1 ⟨rfl, rfl⟩) | (go_at_call 114; refine (with_any ⟨_, n, a, p⟩ _ _).mono ?_; rintro e w1 ⟨rfl, o1, o2, rfl⟩) | (go_at_call 25; refine (Tryd.strings_HasPrefix a ⟨#[111, 110]⟩ _).mono ?_; rintro e w1 ⟨rfl, rfl⟩))
          exact ret88 rfl rfl rfl rfl (by repeat (first | exact blk_n1 _ _ _ | refine blk_alloc ?_ _)) ⟨by rw [hr.out]; simp [valF, quotF, HS.w, *], by repeat (first | exact Below.refl _ _ | apply below_alloc)⟩
    · obtain rfl : c = 34 := eq_of_beq c34
      cases t1 : (a.toList == [104, 114, 101, 102])
      · cases t2 : (a.toList == [115, 114, 99])
        · cases t3 : (a.toList == [97, 99, 116, 105, 111, 110])
          · cases t4 : (a.toList == [102, 111, 114, 109, 97, 99, 116, 105, 111, 110])
            · cases t5 : (a.toList == [115, 116, 121, 108, 101])
              · cases t6 : (a.toList == [115, 114, 99, 100, 111, 99])
                · cases t7 : (Lib.hasPrefix a.data.toList [111, 110])
                  · go_enter Tryd.func116, Tryd.ntmps116
                    go_wp2_with (first | (go_at_call 118; refine (space_any _ h0 h9 _).mono ?_; rintro e w1 ⟨rfl, rfl⟩) | (go_at_call 114; refine (with_any ⟨_, n, a, p⟩ _ _).mono ?_; rintro e w1 ⟨rfl, o1, o2, rfl⟩) | (go_at_call 25; refine (Tryd.strings_HasPrefix a ⟨#[111, 110]⟩ _).mono ?_; rintro e w1 ⟨rfl, rfl⟩))
                    exact ret88 rfl rfl rfl rfl (by repeat (first | exact blk_n1 _ _ _ | refine blk_alloc ?_ _)) ⟨by rw [hr.out]; simp [valF, quotF, HS.w, *], by repeat (first | exact Below.refl _ _ | apply below_alloc)⟩
                  · go_enter Tryd.func116, Tryd.ntmps116
                    go_wp2_with (first | (go_at_call 118; refine (space_any _ h0 h9 _).mono ?_; rintro e w1 ⟨rfl, rfl⟩) | (go_at_call 114; refine (with_any ⟨_, n, a, p⟩ _ _).mono ?_; rintro e w1 ⟨rfl, o1, o2, rfl⟩) | (go_at_call 25; refine (Tryd.strings_HasPrefix a ⟨#[111, 110]⟩ _).mono ?_; rintro e w1 ⟨rfl, rfl⟩))
                    exact ret88 rfl rfl rfl rfl (by repeat (first | exact blk_n1 _ _ _ | refine blk_alloc ?_ _)) ⟨by rw [hr.out]; simp [valF, quotF, HS.w, *], by repeat (first | exact Below.refl _ _ | apply below_alloc)⟩
                · go_enter Tryd.func116, Tryd.ntmps116
                  go_wp2_with (first | (go_at_call 118; refine (space_any _ h0 h9 _).mono ?_; rintro e w1 ⟨rfl, rfl⟩) | (go_at_call 114; refine (with_any ⟨_, n, a, p⟩ _ _).mono ?_; rintro e w1 ⟨rfl, o1, o2, rfl⟩) | (go_at_call 25; refine (Tryd.strings_HasPrefix a ⟨#[111, 110]⟩ _).mono ?_; rintro e w1 ⟨rfl, rfl⟩))
                  exact ret88 rfl rfl rfl rfl (by repeat (first | exact blk_n1 _ _ _ | refine blk_alloc ?_ _)) ⟨by rw [hr.out]; simp [valF, quotF, HS.w, *], by repeat (first | exact Below.refl _ _ | apply below_alloc)⟩
              · go_enter Tryd.func116, Tryd.ntmps116
                go_wp2_with (first | (go_at_call 118; refine (space_any _ h0 h9 _).mono ?_; rintro e w1 ⟨rfl, rfl⟩) | (go_at_call 114; refine (with_any ⟨_, n, a, p⟩ _ _).mono ?_; rintro e w1 ⟨rfl, o1, o2, rfl⟩) | (go_at_call 25; refine (Tryd.strings_HasPrefix a ⟨#[111, 110]⟩ _).mono ?_; rintro e w1 ⟨rfl, rfl⟩))
                exact ret88 rfl rfl rfl rfl (by repeat (first | exact blk_n1 _ _ _ | refine blk_alloc ?_ _)) ⟨by rw [hr.out]; simp [valF, quotF, HS.w, *], by repeat (first | exact Below.refl _ _ | apply below_alloc)⟩
            · go_enter Tryd.func116, Tryd.ntmps116
              go_wp2_with (first | (go_at_call 118; refine (space_any _ h0 h9 _).mono ?_; rintro e w1 ⟨rfl, rfl⟩) | (go_at_call 114; refine (with_any ⟨_, n, a, p⟩ _ _).mono ?_; rintro e w1 ⟨rfl, o1, o2, rfl⟩) | (go_at_call 25; refine (Tryd.strings_HasPrefix a ⟨#[111, 110]⟩ _).mono ?_; rintro e w1 ⟨rfl, rfl⟩))
              exact ret88 rfl rfl rfl rfl (by repeat (first | exact blk_n1 _ _ _ | refine blk_alloc ?_ _)) ⟨by rw [hr.out]; simp [valF, quotF, HS.w, *], by repeat (first | exact Below.refl _ _ | apply below_alloc)⟩
          · go_enter Tryd.func116, Tryd.ntmps116
            go_wp2_with (first | (go_at_call 118; refine (space_any _ h0 h9 _).mono ?_; rintro e w1 ⟨rfl, rfl⟩) | (go_at_call 114; refine (with_any ⟨_, n, a, p⟩ _ _).mono ?_; rintro e w1 ⟨rfl, o1, o2, rfl⟩) | (go_at_call 25; refine (Tryd.strings_HasPrefix a ⟨#[111, 110]⟩ _).mono ?_; rintro e w1 ⟨rfl, rfl⟩))
            exact ret88 rfl rfl rfl rfl (by repeat (first | exact blk_n1 _ _ _ | refine blk_alloc ?_ _)) ⟨by rw [hr.out]; simp [valF, quotF, HS.w, *], by repeat (first | exact Below.refl _ _ | apply below_alloc)⟩
        · go_enter Tryd.func116, Tryd.ntmps116
          go_wp2_with (first | (go_at_call 118; refine (space_any _ h0 h9 _).mono ?_; rintro e w1 ⟨rfl, rfl⟩) | (go_at_call 114; refine (with_any ⟨_, n, a, p⟩ _ _).mono ?_; rintro e w1 ⟨rfl, o1, o2, rfl⟩) | (go_at_call 25; refine (Tryd.strings_HasPrefix a ⟨#[111, 110]⟩ _).mono ?_; rintro e w1 ⟨rfl, rfl⟩))
          exact ret88 rfl rfl rfl rfl (by repeat (first | exact blk_n1 _ _ _ | refine blk_alloc ?_ _)) ⟨by rw [hr.out]; simp [valF, quotF, HS.w, *], by repeat (first | exact Below.refl _ _ | apply below_alloc)⟩
      · go_enter Tryd.func116, Tryd.ntmps116
        go_wp2_with (first | (go_at_call 118; refine (space_any _ h0 h9 _).mono ?_; rintro e w1 ⟨rfl, rfl⟩) | (go_at_call 114; refine (with_any ⟨_, n, a, p⟩ _ _).mono ?_; rintro e w1 ⟨rfl, o1, o2, rfl⟩) | (go_at_call 25; refine (Tryd.strings_HasPrefix a ⟨#[111, 110]⟩ _).mono ?_; rintro e w1 ⟨rfl, rfl⟩))
        exact ret88 rfl rfl rfl rfl (by repeat (first | exact blk_n1 _ _ _ | refine blk_alloc ?_ _)) ⟨by rw [hr.out]; simp [valF, quotF, HS.w, *], by repeat (first | exact Below.refl _ _ | apply below_alloc)⟩
  · go_enter Tryd.func116, Tryd.ntmps116
    go_wp2_with (first | (go_at_call 118; refine (space_any _ h0 h9 _).mono ?_; rintro e w1 ⟨rfl, rfl⟩) | (go_at_call 114; refine (with_any ⟨_, n, a, p⟩ _ _).mono ?_; rintro e w1 ⟨rfl, o1, o2, rfl⟩) | (go_at_call 25; refine (Tryd.strings_HasPrefix a ⟨#[111, 110]⟩ _).mono ?_; rintro e w1 ⟨rfl, rfl⟩))
    exact ret88 rfl rfl rfl rfl (by repeat (first | exact blk_n1 _ _ _ | refine blk_alloc ?_ _)) ⟨by rw [hr.out]; simp [valF, quotF, HS.w, *], by repeat (first | exact Below.refl _ _ | apply below_alloc)⟩
end Go.Proofs.YtkpnfejfbmandaaDoor.Px
namespace Go.Proofs.YtkpnfejfbmandaaDoor.Px
open Go.RowKit Go.Proofs.YtkpnfejfbmandaaDoorW.PrintWords Go.Proofs.YtkpnfejfbmandaaDoorW.PrintLast Go.Proofs.YtkpnfejfbmandaaDoorW.PrintMore
set_option linter.unusedVariables false
set_option linter.unusedSimpArgs false
def tagF (s : HS) (c : Int) : HS :=
  if (s.c == 7 || s.c == 9 || s.c == 11) = true then (if c == 34 then s.w 1 else s)
  else if (s.c == 8 || s.c == 10 || s.c == 12) = true then (if c == 39 then s.w 1 else s)
  else if c == 62 then openF s.n else if s.c == 5 then valF s c else if s.c == 6 then (if spF c then s.w 1 else s) else nameF s c
set_option maxHeartbeats 8000000 in
set_option maxRecDepth 100000 in
theorem tag_any (s : HS) (c : Int) (h0 : 0 ≤ c) (h9 : c ≤ 255) (hk : ((s.c = 7 ∨ s.c = 9 ∨ s.c = 11) ∨ (s.c = 8 ∨ s.c = 10 ∨ s.c = 12)) ∨ s.c = 6 ∨ s.c = 5 ∨ s.c = 1 ∨ s.c = 2 ∨ s.c = 3 ∨ s.c = 4) (hn : s.n.size < 1000000) (ha : s.a.size < 1000000) (w : World) : Calls Tryd.prog 105 #[.agg #[.int .i64 s.c, .string s.n, .string s.a, .string s.p], .int .u8 c] w fun e w' => e = .returned (.agg #[.int .i64 (tagF s c).c, .string (tagF s c).n, .string (tagF s c).a, .string (tagF s c).p]) ∧ Below w.heap.size w w' := by
  obtain ⟨r, hr⟩ : ∃ r, r = Value.agg #[.int .i64 (tagF s c).c, .string (tagF s c).n, .string (tagF s c).a, .string (tagF s c).p] := ⟨_, rfl⟩
  rw [← hr]
  replace hr := Aside0.mk hr
  obtain ⟨k, n, a, p⟩ := s
  simp only at hk hr hn ha ⊢
  rcases hk with ((rfl | rfl | rfl) | (rfl | rfl | rfl)) | rfl | rfl | hk
  · cases c34 : (c == 34)
    · go_enter Tryd.func105, Tryd.ntmps105
      go_wp2_with (go_at_call 114; refine (with_any ⟨_, n, a, p⟩ _ _).mono ?_; rintro e w1 ⟨rfl, o1, o2, rfl⟩)
      exact ret88 rfl rfl rfl rfl (by repeat (first | exact blk_n1 _ _ _ | refine blk_alloc ?_ _)) ⟨by rw [hr.out]; simp [tagF, HS.w, *], by repeat (first | exact Below.refl _ _ | apply below_alloc)⟩
    · obtain rfl : c = 34 := eq_of_beq c34
      go_enter Tryd.func105, Tryd.ntmps105
      go_wp2_with (go_at_call 114; refine (with_any ⟨_, n, a, p⟩ _ _).mono ?_; rintro e w1 ⟨rfl, o1, o2, rfl⟩)
      exact ret88 rfl rfl rfl rfl (by repeat (first | exact blk_n1 _ _ _ | refine blk_alloc ?_ _)) ⟨by rw [hr.out]; simp [tagF, HS.w, *], by repeat (first | exact Below.refl _ _ | apply below_alloc)⟩
  · cases c34 : (c == 34)
    · go_enter Tryd.func105, Tryd.ntmps105
      go_wp2_with (go_at_call 114; refine (with_any ⟨_, n, a, p⟩ _ _).mono ?_; rintro e w1 ⟨rfl, o1, o2, rfl⟩)
      exact ret88 rfl rfl rfl rfl (by repeat (first | exact blk_n1 _ _ _ | refine blk_alloc ?_ _)) ⟨by rw [hr.out]; simp [tagF, HS.w, *], by repeat (first | exact Below.refl _ _ | apply below_alloc)⟩
    · obtain rfl : c = 34 := eq_of_beq c34
      go_enter Tryd.func105, Tryd.ntmps105
      go_wp2_with (go_at_call 114; refine (with_any ⟨_, n, a, p⟩ _ _).mono ?_; rintro e w1 ⟨rfl, o1, o2, rfl⟩)
      exact ret88 rfl rfl rfl rfl (by repeat (first | exact blk_n1 _ _ _ | refine blk_alloc ?_ _)) ⟨by rw [hr.out]; simp [tagF, HS.w, *], by repeat (first | exact Below.refl _ _ | apply below_alloc)⟩
  · cases c34 : (c == 34)
    · go_enter Tryd.func105, Tryd.ntmps105
      go_wp2_with (go_at_call 114; refine (with_any ⟨_, n, a, p⟩ _ _).mono ?_; rintro e w1 ⟨rfl, o1, o2, rfl⟩)
      exact ret88 rfl rfl rfl rfl (by repeat (first | exact blk_n1 _ _ _ | refine blk_alloc ?_ _)) ⟨by rw [hr.out]; simp [tagF, HS.w, *], by repeat (first | exact Below.refl _ _ | apply below_alloc)⟩
    · obtain rfl : c = 34 := eq_of_beq c34
      go_enter Tryd.func105, Tryd.ntmps105
      go_wp2_with (go_at_call 114; refine (with_any ⟨_, n, a, p⟩ _ _).mono ?_; rintro e w1 ⟨rfl, o1, o2, rfl⟩)
      exact ret88 rfl rfl rfl rfl (by repeat (first | exact blk_n1 _ _ _ | refine blk_alloc ?_ _)) ⟨by rw [hr.out]; simp [tagF, HS.w, *], by repeat (first | exact Below.refl _ _ | apply below_alloc)⟩
  · cases c39 : (c == 39)
    · go_enter Tryd.func105, Tryd.ntmps105
      go_wp2_with (go_at_call 114; refine (with_any ⟨_, n, a, p⟩ _ _).mono ?_; rintro e w1 ⟨rfl, o1, o2, rfl⟩)
      exact ret88 rfl rfl rfl rfl (by repeat (first | exact blk_n1 _ _ _ | refine blk_alloc ?_ _)) ⟨by rw [hr.out]; simp [tagF, HS.w, *], by repeat (first | exact Below.refl _ _ | apply below_alloc)⟩
    · obtain rfl : c = 39 := eq_of_beq c39
      go_enter Tryd.func105, Tryd.ntmps105
      go_wp2_with (go_at_call 114; refine (with_any ⟨_, n, a, p⟩ _ _).mono ?_; rintro e w1 ⟨rfl, o1, o2, rfl⟩)
      exact ret88 rfl rfl rfl rfl (by repeat (first | exact blk_n1 _ _ _ | refine blk_alloc ?_ _)) ⟨by rw [hr.out]; simp [tagF, HS.w, *], by repeat (first | exact Below.refl _ _ | apply below_alloc)⟩
  · cases c39 : (c == 39)
    · go_enter Tryd.func105, Tryd.ntmps105
      go_wp2_with (go_at_call 114; refine (with_any ⟨_, n, a, p⟩ _ _).mono ?_; rintro e w1 ⟨rfl, o1, o2, rfl⟩)
      exact ret88 rfl rfl rfl rfl (by repeat (first | exact blk_n1 _ _ _ | refine blk_alloc ?_ _)) ⟨by rw [hr.out]; simp [tagF, HS.w, *], by repeat (first | exact Below.refl _ _ | apply below_alloc)⟩
    · obtain rfl : c = 39 := eq_of_beq c39
      go_enter Tryd.func105, Tryd.ntmps105
      go_wp2_with (go_at_call 114; refine (with_any ⟨_, n, a, p⟩ _ _).mono ?_; rintro e w1 ⟨rfl, o1, o2, rfl⟩)
      exact ret88 rfl rfl rfl rfl (by repeat (first | exact blk_n1 _ _ _ | refine blk_alloc ?_ _)) ⟨by rw [hr.out]; simp [tagF, HS.w, *], by repeat (first | exact Below.refl _ _ | apply below_alloc)⟩
  · cases c39 : (c == 39)
    · go_enter Tryd.func105, Tryd.ntmps105
      go_wp2_with (go_at_call 114; refine (with_any ⟨_, n, a, p⟩ _ _).mono ?_; rintro e w1 ⟨rfl, o1, o2, rfl⟩)
      exact ret88 rfl rfl rfl rfl (by repeat (first | exact blk_n1 _ _ _ | refine blk_alloc ?_ _)) ⟨by rw [hr.out]; simp [tagF, HS.w, *], by repeat (first | exact Below.refl _ _ | apply below_alloc)⟩
    · obtain rfl : c = 39 := eq_of_beq c39
      go_enter Tryd.func105, Tryd.ntmps105
      go_wp2_with (go_at_call 114; refine (with_any ⟨_, n, a, p⟩ _ _).mono ?_; rintro e w1 ⟨rfl, o1, o2, rfl⟩)
      exact ret88 rfl rfl rfl rfl (by repeat (first | exact blk_n1 _ _ _ | refine blk_alloc ?_ _)) ⟨by rw [hr.out]; simp [tagF, HS.w, *], by repeat (first | exact Below.refl _ _ | apply below_alloc)⟩
  · cases c62 : (c == 62)
    · cases sp : (spF c)
      · go_enter Tryd.func105, Tryd.ntmps105
        go_wp2_with (first | (go_at_call 118; refine (space_any _ h0 h9 _).mono ?_; rintro e w1 ⟨rfl, rfl⟩) | (go_at_call 115; refine (open_any ⟨_, n, a, p⟩ _).mono ?_; rintro e w1 ⟨rfl, o1, o2, rfl⟩) | (go_at_call 114; refine (with_any ⟨_, n, a, p⟩ _ _).mono ?_; rintro e w1 ⟨rfl, o1, o2, rfl⟩))
        exact ret88 rfl rfl rfl rfl (by repeat (first | exact blk_n1 _ _ _ | refine blk_alloc ?_ _)) ⟨by rw [hr.out]; simp [tagF, HS.w, *], by repeat (first | exact Below.refl _ _ | apply below_alloc)⟩
      · go_enter Tryd.func105, Tryd.ntmps105
        go_wp2_with (first | (go_at_call 118; refine (space_any _ h0 h9 _).mono ?_; rintro e w1 ⟨rfl, rfl⟩) | (go_at_call 115; refine (open_any ⟨_, n, a, p⟩ _).mono ?_; rintro e w1 ⟨rfl, o1, o2, rfl⟩) | (go_at_call 114; refine (with_any ⟨_, n, a, p⟩ _ _).mono ?_; rintro e w1 ⟨rfl, o1, o2, rfl⟩))
        exact ret88 rfl rfl rfl rfl (by repeat (first | exact blk_n1 _ _ _ | refine blk_alloc ?_ _)) ⟨by rw [hr.out]; simp [tagF, HS.w, *], by repeat (first | exact Below.refl _ _ | apply below_alloc)⟩
    · obtain rfl : c = 62 := eq_of_beq c62
      go_enter Tryd.func105, Tryd.ntmps105
      go_wp2_with (first | (go_at_call 118; refine (space_any _ h0 h9 _).mono ?_; rintro e w1 ⟨rfl, rfl⟩) | (go_at_call 115; refine (open_any ⟨_, n, a, p⟩ _).mono ?_; rintro e w1 ⟨rfl, o1, o2, rfl⟩) | (go_at_call 114; refine (with_any ⟨_, n, a, p⟩ _ _).mono ?_; rintro e w1 ⟨rfl, o1, o2, rfl⟩))
      exact ret88 rfl rfl rfl rfl (by repeat (first | exact blk_n1 _ _ _ | refine blk_alloc ?_ _)) ⟨by rw [hr.out]; simp [tagF, HS.w, *], by repeat (first | exact Below.refl _ _ | apply below_alloc)⟩
  · cases c62 : (c == 62)
    · go_enter Tryd.func105, Tryd.ntmps105
      go_wp2_with (go_at_call 116; refine (value_any ⟨_, n, a, p⟩ _ h0 h9 _).mono ?_; rintro e w2 ⟨rfl, hb⟩; have hB := Aside0.mk (blk_below (blk_n1 w _ _) hb); have c0_ : w2.cell? ⟨w.heap.size + 1, 0, none⟩ = some (.int .i64 0) := (blk_cell hB.out 0).trans rfl; have f0_ := blk_frozen hB.out 0; have c1_ : w2.cell? ⟨w.heap.size + 1, 1, none⟩ = some (.string ⟨#[]⟩) := (blk_cell hB.out 1).trans rfl; have f1_ := blk_frozen hB.out 1; have c2_ : w2.cell? ⟨w.heap.size + 1, 2, none⟩ = some (.string ⟨#[]⟩) := (blk_cell hB.out 2).trans rfl; have f2_ := blk_frozen hB.out 2; have c3_ : w2.cell? ⟨w.heap.size + 1, 3, none⟩ = some (.string ⟨#[]⟩) := (blk_cell hB.out 3).trans rfl; have f3_ := blk_frozen hB.out 3; replace hb := Aside0.mk hb)
      exact ret88 rfl rfl rfl rfl (blk_put4 hB.out rfl _ _ _ _) ⟨by rw [hr.out]; simp [tagF, c62], by repeat (first | (refine below_step ?_ hb.out) | exact Below.refl _ _ | apply below_alloc | refine below_set ?_ (Nat.le_succ _))⟩
    · go_enter Tryd.func105, Tryd.ntmps105
      go_wp2_with (go_at_call 115; refine (open_any ⟨_, n, a, p⟩ _).mono ?_; rintro e w1 ⟨rfl, o1, o2, rfl⟩)
      exact ret88 rfl rfl rfl rfl (by repeat (first | exact blk_n1 _ _ _ | refine blk_alloc ?_ _)) ⟨by rw [hr.out]; simp [tagF, c62], by repeat (first | exact Below.refl _ _ | apply below_alloc)⟩
  · cases c62 : (c == 62)
    · rcases hk with rfl | rfl | rfl | rfl
      all_goals
        (go_enter Tryd.func105, Tryd.ntmps105
         go_wp2_with (go_at_call 117; refine (name_any ⟨_, n, a, p⟩ _ h0 h9 (by simp) hn ha _).mono ?_; rintro e w2 ⟨rfl, hb⟩; have hB := Aside0.mk (blk_below (blk_n1 w _ _) hb); have c0_ : w2.cell? ⟨w.heap.size + 1, 0, none⟩ = some (.int .i64 0) := (blk_cell hB.out 0).trans rfl; have f0_ := blk_frozen hB.out 0; have c1_ : w2.cell? ⟨w.heap.size + 1, 1, none⟩ = some (.string ⟨#[]⟩) := (blk_cell hB.out 1).trans rfl; have f1_ := blk_frozen hB.out 1; have c2_ : w2.cell? ⟨w.heap.size + 1, 2, none⟩ = some (.string ⟨#[]⟩) := (blk_cell hB.out 2).trans rfl; have f2_ := blk_frozen hB.out 2; have c3_ : w2.cell? ⟨w.heap.size + 1, 3, none⟩ = some (.string ⟨#[]⟩) := (blk_cell hB.out 3).trans rfl; have f3_ := blk_frozen hB.out 3; replace hb := Aside0.mk hb)
         exact ret88 rfl rfl rfl rfl (blk_put4 hB.out rfl _ _ _ _) ⟨by rw [hr.out]; simp [tagF, c62], by repeat (first | (refine below_step ?_ hb.out) | exact Below.refl _ _ | apply below_alloc | refine below_set ?_ (Nat.le_succ _))⟩)
    · rcases hk with rfl | rfl | rfl | rfl
      all_goals
        (go_enter Tryd.func105, Tryd.ntmps105
         go_wp2_with (go_at_call 115; refine (open_any ⟨_, n, a, p⟩ _).mono ?_; rintro e w1 ⟨rfl, o1, o2, rfl⟩)
         exact ret88 rfl rfl rfl rfl (by repeat (first | exact blk_n1 _ _ _ | refine blk_alloc ?_ _)) ⟨by rw [hr.out]; simp [tagF, c62], by repeat (first | exact Below.refl _ _ | apply below_alloc)⟩)
end Go.Proofs.YtkpnfejfbmandaaDoor.Px
namespace Go.Proofs.YtkpnfejfbmandaaDoor.Px
open Go.RowKit Go.Proofs.YtkpnfejfbmandaaDoorW.PrintWords Go.Proofs.YtkpnfejfbmandaaDoorW.PrintLast Go.Proofs.YtkpnfejfbmandaaDoorW.PrintMore
set_option linter.unusedVariables false
set_option linter.unusedSimpArgs false
def rawF (s : HS) (code : Int) (e : ByteArray) (c : Int) : HS :=
  if (Lib.hasPrefix s.p.data.toList [60] && Lib.hasPrefix e.data.toList (s.p ++ lowF c).data.toList) = true then (if (s.p ++ lowF c).toList == e.toList then hc 15 else s.pt (s.p ++ lowF c))
  else if c == 60 then s.pt ⟨#[60]⟩ else if s.p.toList == [92] then s.pt ⟨#[]⟩
  else if s.c == code then (if c == 34 then ⟨code + 1, s.n, s.a, ⟨#[]⟩⟩ else if c == 39 then ⟨code + 2, s.n, s.a, ⟨#[]⟩⟩ else s.pt ⟨#[]⟩)
  else if (c == (if s.c == code + 1 then 34 else 39) || c == 10) = true then ⟨code, s.n, s.a, ⟨#[]⟩⟩ else if c == 92 then s.pt ⟨#[92]⟩ else s.pt ⟨#[]⟩
set_option maxHeartbeats 8000000 in
set_option maxRecDepth 100000 in
theorem raw_0 (s : HS) (code : Int) (e : ByteArray) (c : Int) (h0 : 0 ≤ c) (h9 : c ≤ 255) (hcd : code = 16 ∨ code = 19) (hs : s.p.size < 1000000) (hk : s.c = code) (w : World) : Calls Tryd.prog 104 #[.agg #[.int .i64 s.c, .string s.n, .string s.a, .string s.p], .int .i64 code, .string e, .int .u8 c] w fun e_ w' => e_ = .returned (.agg #[.int .i64 (rawF s code e c).c, .string (rawF s code e c).n, .string (rawF s code e c).a, .string (rawF s code e c).p]) ∧ Below w.heap.size w w' := by
  obtain ⟨r, hr⟩ : ∃ r, r = Value.agg #[.int .i64 (rawF s code e c).c, .string (rawF s code e c).n, .string (rawF s code e c).a, .string (rawF s code e c).p] := ⟨_, rfl⟩
  rw [← hr]
  replace hr := Aside0.mk hr
  have hcs : s.p.size + (lowF c).size ≤ 9223372036854775807 := by rw [lowF_size]; omega
  have hin : wrap64 (s.c - code) = 0 := by rw [hk]; unfold wrap64; omega
  have hw1 : wrap64 (code + 1) = code + 1 := by unfold wrap64; omega
  have hw2 : wrap64 (code + 2) = code + 2 := by unfold wrap64; omega
  have k0 : (s.c == code) = true := by simp [hk]
  replace hk := Aside0.mk hk
  clear hcd
  go_enter Tryd.func104, Tryd.ntmps104
  go_upto_region 2 with (fail)
  go_cut [9] (fun v9 wc => ∃ o, v9 = .string (s.p ++ lowF c) ∧ wc = (((w.alloc (.cells #[.int .i64 s.c, .string s.n, .string s.a, .string s.p] 88)).alloc (.cells #[.int .i64 0, .string ⟨#[]⟩, .string ⟨#[]⟩, .string ⟨#[]⟩] 88)).alloc o).drew)
  case first =>
    go_region_with (go_at_call 112; (with_reducible refine (lower_any _ h0 h9 _).mono ?_); rintro e w2 ⟨rfl, o, rfl⟩)
    all_goals (go_wp2; go_meet; exact ⟨_, rfl, rfl⟩)
  case rest =>
  obtain ⟨o, rfl, rfl⟩ := hcut
  go_wp2_with (first | (go_at_call 25; refine (Tryd.strings_HasPrefix _ _ _).mono ?_; rintro e w1 ⟨rfl, rfl⟩) | (go_at_call 113; refine (part_any s _ _).mono ?_; rintro e w1 ⟨rfl, o1, o2, rfl⟩))
  all_goals exact ret88 rfl rfl rfl rfl (by repeat (first | exact blk_n1 _ _ _ | refine blk_alloc ?_ _ | refine blk_drew ?_)) ⟨by rw [hr.out]; first | (simp [rawF, HS.pt, hc, *]; done) | (simp_all [rawF, HS.pt, hc]; done) | (cases ‹(c == _) = true ∨ (c == 10) = true› <;> simp_all [rawF, HS.pt, hc]), by repeat (first | exact Below.refl _ _ | apply below_alloc | apply below_drew1)⟩
set_option maxHeartbeats 8000000 in
set_option maxRecDepth 100000 in
theorem raw_1 (s : HS) (code : Int) (e : ByteArray) (c : Int) (h0 : 0 ≤ c) (h9 : c ≤ 255) (hcd : code = 16 ∨ code = 19) (hs : s.p.size < 1000000) (hk : s.c = code + 1) (w : World) : Calls Tryd.prog 104 #[.agg #[.int .i64 s.c, .string s.n, .string s.a, .string s.p], .int .i64 code, .string e, .int .u8 c] w fun e_ w' => e_ = .returned (.agg #[.int .i64 (rawF s code e c).c, .string (rawF s code e c).n, .string (rawF s code e c).a, .string (rawF s code e c).p]) ∧ Below w.heap.size w w' := by
  obtain ⟨r, hr⟩ : ∃ r, r = Value.agg #[.int .i64 (rawF s code e c).c, .string (rawF s code e c).n, .string (rawF s code e c).a, .string (rawF s code e c).p] := ⟨_, rfl⟩
  rw [← hr]
  replace hr := Aside0.mk hr
  have hcs : s.p.size + (lowF c).size ≤ 9223372036854775807 := by rw [lowF_size]; omega
  have hin : wrap64 (s.c - code) = 1 := by rw [hk]; unfold wrap64; omega
  have hw1 : wrap64 (code + 1) = code + 1 := by unfold wrap64; omega
  have hw2 : wrap64 (code + 2) = code + 2 := by unfold wrap64; omega
  have k0 : (s.c == code) = false := beq_eq_false_iff_ne.mpr (by omega)
  have k1 : (s.c == code + 1) = true := by simp [hk]
  replace hk := Aside0.mk hk
  clear hcd
  go_enter Tryd.func104, Tryd.ntmps104
  go_upto_region 2 with (fail)
  go_cut [9] (fun v9 wc => ∃ o, v9 = .string (s.p ++ lowF c) ∧ wc = (((w.alloc (.cells #[.int .i64 s.c, .string s.n, .string s.a, .string s.p] 88)).alloc (.cells #[.int .i64 0, .string ⟨#[]⟩, .string ⟨#[]⟩, .string ⟨#[]⟩] 88)).alloc o).drew)
  case first =>
    go_region_with (go_at_call 112; (with_reducible refine (lower_any _ h0 h9 _).mono ?_); rintro e w2 ⟨rfl, o, rfl⟩)
    all_goals (go_wp2; go_meet; exact ⟨_, rfl, rfl⟩)
  case rest =>
  obtain ⟨o, rfl, rfl⟩ := hcut
  go_wp2_with (first | (go_at_call 25; refine (Tryd.strings_HasPrefix _ _ _).mono ?_; rintro e w1 ⟨rfl, rfl⟩) | (go_at_call 113; refine (part_any s _ _).mono ?_; rintro e w1 ⟨rfl, o1, o2, rfl⟩))
  all_goals exact ret88 rfl rfl rfl rfl (by repeat (first | exact blk_n1 _ _ _ | refine blk_alloc ?_ _ | refine blk_drew ?_)) ⟨by rw [hr.out]; first | (simp [rawF, HS.pt, hc, *]; done) | (simp_all [rawF, HS.pt, hc]; done) | (cases ‹(c == _) = true ∨ (c == 10) = true› <;> simp_all [rawF, HS.pt, hc]), by repeat (first | exact Below.refl _ _ | apply below_alloc | apply below_drew1)⟩
set_option maxHeartbeats 8000000 in
set_option maxRecDepth 100000 in
theorem raw_2 (s : HS) (code : Int) (e : ByteArray) (c : Int) (h0 : 0 ≤ c) (h9 : c ≤ 255) (hcd : code = 16 ∨ code = 19) (hs : s.p.size < 1000000) (hk : s.c = code + 2) (w : World) : Calls Tryd.prog 104 #[.agg #[.int .i64 s.c, .string s.n, .string s.a, .string s.p], .int .i64 code, .string e, .int .u8 c] w fun e_ w' => e_ = .returned (.agg #[.int .i64 (rawF s code e c).c, .string (rawF s code e c).n, .string (rawF s code e c).a, .string (rawF s code e c).p]) ∧ Below w.heap.size w w' := by
  obtain ⟨r, hr⟩ : ∃ r, r = Value.agg #[.int .i64 (rawF s code e c).c, .string (rawF s code e c).n, .string (rawF s code e c).a, .string (rawF s code e c).p] := ⟨_, rfl⟩
  rw [← hr]
  replace hr := Aside0.mk hr
  have hcs : s.p.size + (lowF c).size ≤ 9223372036854775807 := by rw [lowF_size]; omega
  have hin : wrap64 (s.c - code) = 2 := by rw [hk]; unfold wrap64; omega
  have hw1 : wrap64 (code + 1) = code + 1 := by unfold wrap64; omega
  have hw2 : wrap64 (code + 2) = code + 2 := by unfold wrap64; omega
  have k0 : (s.c == code) = false := beq_eq_false_iff_ne.mpr (by omega)
  have k1 : (s.c == code + 1) = false := beq_eq_false_iff_ne.mpr (by omega)
  replace hk := Aside0.mk hk
  clear hcd
  go_enter Tryd.func104, Tryd.ntmps104
  go_upto_region 2 with (fail)
  go_cut [9] (fun v9 wc => ∃ o, v9 = .string (s.p ++ lowF c) ∧ wc = (((w.alloc (.cells #[.int .i64 s.c, .string s.n, .string s.a, .string s.p] 88)).alloc (.cells #[.int .i64 0, .string ⟨#[]⟩, .string ⟨#[]⟩, .string ⟨#[]⟩] 88)).alloc o).drew)
  case first =>
    go_region_with (go_at_call 112; (with_reducible refine (lower_any _ h0 h9 _).mono ?_); rintro e w2 ⟨rfl, o, rfl⟩)
    all_goals (go_wp2; go_meet; exact ⟨_, rfl, rfl⟩)
  case rest =>
  obtain ⟨o, rfl, rfl⟩ := hcut
  go_wp2_with (first | (go_at_call 25; refine (Tryd.strings_HasPrefix _ _ _).mono ?_; rintro e w1 ⟨rfl, rfl⟩) | (go_at_call 113; refine (part_any s _ _).mono ?_; rintro e w1 ⟨rfl, o1, o2, rfl⟩))
  all_goals exact ret88 rfl rfl rfl rfl (by repeat (first | exact blk_n1 _ _ _ | refine blk_alloc ?_ _ | refine blk_drew ?_)) ⟨by rw [hr.out]; first | (simp [rawF, HS.pt, hc, *]; done) | (simp_all [rawF, HS.pt, hc]; done) | (cases ‹(c == _) = true ∨ (c == 10) = true› <;> simp_all [rawF, HS.pt, hc]), by repeat (first | exact Below.refl _ _ | apply below_alloc | apply below_drew1)⟩
theorem raw_any (s : HS) (code : Int) (e : ByteArray) (c : Int) (h0 : 0 ≤ c) (h9 : c ≤ 255) (hcd : code = 16 ∨ code = 19) (hs : s.p.size < 1000000) (hk : s.c = code ∨ s.c = code + 1 ∨ s.c = code + 2) (w : World) : Calls Tryd.prog 104 #[.agg #[.int .i64 s.c, .string s.n, .string s.a, .string s.p], .int .i64 code, .string e, .int .u8 c] w fun e_ w' => e_ = .returned (.agg #[.int .i64 (rawF s code e c).c, .string (rawF s code e c).n, .string (rawF s code e c).a, .string (rawF s code e c).p]) ∧ Below w.heap.size w w' := by
  rcases hk with hk | hk | hk
  · exact raw_0 s code e c h0 h9 hcd hs hk w
  · exact raw_1 s code e c h0 h9 hcd hs hk w
  · exact raw_2 s code e c h0 h9 hcd hs hk w
end Go.Proofs.YtkpnfejfbmandaaDoor.Px
