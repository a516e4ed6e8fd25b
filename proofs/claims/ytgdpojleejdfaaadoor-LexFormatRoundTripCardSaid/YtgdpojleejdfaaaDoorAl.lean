/- tmplpipelaw11's example holds; small laws on lexF. -/
import Derived.Test.YtgdpojleejdfaaaDoorPy3
namespace Go.Proofs.YtgdpojleejdfaaaDoor.Px
open Go.RowKit Go.Proofs.YtgdpojleejdfaaaDoorW.PrintWords Go.Proofs.YtgdpojleejdfaaaDoorW.PrintLast Go.Proofs.YtgdpojleejdfaaaDoorW.PrintMore

theorem w64L {n : Int} (h0 : 0 ≤ n) (h1 : n ≤ 4611686018427387904) : wrap64 n = n := by unfold wrap64; omega
theorem drop_btL (s : ByteArray) (i : Int) (h0 : 0 ≤ i) (h1 : i < (s.size : Int)) : ∃ b r, s.data.toList.drop i.toNat = b :: r ∧ bt s i = (b.toNat : Int) ∧ s.data.toList.drop (i + 1).toNat = r := by
  have hl : i.toNat < s.data.toList.length := by rw [data_length]; omega
  refine ⟨s.data.toList[i.toNat], s.data.toList.drop (i.toNat + 1), List.drop_eq_getElem_cons hl, ?_, by rw [show (i + 1).toNat = i.toNat + 1 by omega]⟩
  rw [← bt_at s i (by omega)]
  simp [ByteArray.getElem_eq_getElem_data]
theorem b123 (x : UInt8) : (x.toNat : Int) = 123 ↔ x = 123 := by
  constructor
  · intro h
    have h2 : x.toNat = (123 : UInt8).toNat := by
      show x.toNat = 123
      omega
    exact UInt8.toNat_inj.1 h2
  · intro h; rw [h]; rfl
theorem lexF_small {s : ByteArray} (h : s.size ≤ 65536) : lexF s = lexR s (lexS 0 s.data.toList) := if_neg (by omega)
theorem lexF_ab : lexF ⟨#[97, 123, 123, 46, 98, 125, 125]⟩ = ([⟨0, 0, ⟨#[97]⟩, ⟨#[]⟩, false⟩, ⟨1, 1, ⟨#[]⟩, ⟨#[98]⟩, true⟩], 7, 0) := by
  rw [lexF_small (by decide)]
  have h := lexS_dir (p := 0) (t := [97]) (u := [46, 98]) (r := []) (by simp [noPair]) (by simp [noPair])
  have hd : dirF (fieldsG [46, 98] []) = (0, 1, [], [98], true) := by decide
  rw [hd] at h
  rw [lexS_text (s := []) trivial] at h
  show lexR _ (lexS 0 ([97] ++ 123 :: 123 :: ([46, 98] ++ 125 :: 125 :: []))) = _
  rw [h]
  rfl
theorem lexF_if : lexF ⟨#[123, 123, 105, 102, 125, 125]⟩ = ([], 0, 5) := by
  rw [lexF_small (by decide)]
  have h := lexS_dir (p := 0) (t := []) (u := [105, 102]) (r := []) (by simp [noPair]) (by simp [noPair])
  have hd : dirF (fieldsG [105, 102] []) = (5, zeroT) := by decide
  rw [hd] at h
  show lexR _ (lexS 0 ([] ++ 123 :: 123 :: ([105, 102] ++ 125 :: 125 :: []))) = _
  rw [h]
  rfl
theorem alive_true : tmplpipelaw11_alive.f = some true := by
  unfold tmplpipelaw11_alive.f lex_Lex.f
  rw [lexF_ab, lexF_if]
  simp [rd_T28, ByteArray.toList_eq]
end Go.Proofs.YtgdpojleejdfaaaDoor.Px
