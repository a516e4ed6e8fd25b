import Derived.Test.YtkpnfejfbmandaaDoorRows
import Derived.Test.YtkpnfejfbmandaaDoorCards
import Derived.Test.YtkpnfejfbmandaaDoorTie
import Derived.Test.YtkpnfejfbmandaaDoorCU6
import Derived.Test.YtkpnfejfbmandaaDoorCU5
import Derived.Test.YtkpnfejfbmandaaDoorCU4
import Derived.Test.YtkpnfejfbmandaaDoorCU2
import Derived.Test.YtkpnfejfbmandaaDoorCSM0
import Derived.Test.YtkpnfejfbmandaaDoorCU3
import Derived.Maps.RangeWalk
import Derived.Lib.FieldsP
import Derived.Lib.Split
import Derived.Lib.IndexMore
import Derived.Lib.DecodeN
import Derived.Laws.RangeString
import Derived.Laws.RangeAny
import Derived.Shelf.Strings.Builder1
import Derived.Shelf.Strings.Builder2
import Derived.Shelf.Strings.OnBuilder
import Derived.Shelf.Small.Strs
import Derived.Shelf.Small.Wraps
import Derived.Shelf.Strings.BuilderF
import Derived.Shelf.Strings.BuilderK
import Derived.Shelf.Utf8.RuneCount
import Derived.Shelf.Strings.Builder2Cap
import Derived.Shelf.Strings.Search1
import Derived.Shelf.Strings.Search2
import Derived.Shelf.Strings.Search3
import Derived.Shelf.Strings.Cut
import Derived.Shelf.Strings.Count
import Derived.Shelf.LaysM
import Derived.Shelf.Strings.Shaped
import Derived.Shelf.Strings.Prefix
import Derived.Shelf.Strings.Split
import Derived.Shelf.Strings.SplitShaped
import Derived.Shelf.Unicode.Decode
import Derived.Shelf.Strings.RuneCount
import Derived.Shelf.Strings.Explode
import Derived.Shelf.Bits.Mul64
import Derived.Shelf.Strings.Repeat
import Derived.Shelf.Unicode.DecodeSlow
import Derived.Shelf.Unicode.DecodeAny
import Derived.Shelf.Strings.FieldsFuncAny
import Derived.Shelf.Strings.FieldsFuncGrows
import Derived.Shelf.Strings.BuilderCap
import Derived.Test.YtkpnfejfbmandaaDoorProg
import Derived.Deep.RegionHeld
import Derived.Deep.RegionWith
import Derived.WalkMore
import Derived.Shelf.Abstract
import Derived.Shelf.Vars
import Derived.Lib.LaidU8
import Derived.ProofKit
import Derived.SizedLaws
import Derived.Deep.DeepHandedRow
import Derived.Deep.DeepWitnessRowRef
import Derived.Test.YtkpnfejfbmandaaDoorCSM7
import Derived.WalkKit
import Derived.OpenShut
import Derived.ShutString
import Derived.ChangeOld
import Derived.Below
import Derived.SevenTiedAt
/- The row and the tied card of CompileCheckMatchesReference: for every input the law returns true; each argument reads behind the call as before; package-level variables start as the program's text lays them. -/
namespace Go.Proofs.YtkpnfejfbmandaaDoor.compileCheckMatchesReference
set_option linter.unusedVariables false
set_option linter.unusedSimpArgs false
open Go.ChangeShapes Go.WideShapes Go.ChangeAt Go.RowKit
open Go.ChangeMaps (open_string shut_string)
set_option linter.unusedVariables false
theorem laidOut : laidOutB Tryd.prog = true := by kernel_rfl
theorem own : ownKnob Tryd.prog.godebug = none := by kernel_rfl
theorem witness_row (os : Os) {H : Type} (enc : TypeId × Value → H) :
    (OpenSpec.ofChange Rows.compileCheckMatchesReferenceSpec).preRow enc Tryd.prog Tryd.f6 Rows.compileCheckMatchesReferenceRow.domain false Rows.compileCheckMatchesReferenceRow.laid ((Px.laidWorldF os).forCall (fun _ _ => 0) ⟨#[], #[.slice none 0 0], []⟩).memory #[.slice none 0 0] := by
  have hw : (DataW.whole enc Tryd.prog ((Px.laidWorldF os).forCall (fun _ _ => 0) ⟨#[], #[.slice none 0 0], []⟩).memory Tryd.f6.params.toList (OpenSpec.ofChange Rows.compileCheckMatchesReferenceSpec).vars false #[.slice none 0 0].toList 8).map (fun x => (x.1, x.2.1)) =
      some ([.nil], []) := by kernel_rfl
  obtain ⟨⟨x1, x2, x3⟩, hx, hx1⟩ := Option.map_eq_some_iff.1 hw
  simp only [Prod.mk.injEq] at hx1
  obtain ⟨rfl, rfl⟩ := hx1
  exact OpenSpec.preRow_of_cond 8 hx (by kernel_rfl) (fun k hk => by cases hk) (by kernel_rfl) (Px.laid_metF os _)
set_option maxRecDepth 100000 in
theorem lifted (os : Os) (started : os.Started) (H : Type) (enc : TypeId × Value → H) (F0 : Stop.Interp) :
    ReturnsInHanded {} Tryd.checked os 6 .any ((OpenSpec.ofChange Rows.compileCheckMatchesReferenceSpec).preRow enc Tryd.prog Tryd.f6 Rows.compileCheckMatchesReferenceRow.domain false Rows.compileCheckMatchesReferenceRow.laid) (((OpenSpec.ofChange Rows.compileCheckMatchesReferenceSpec).at F0).post enc Tryd.prog Tryd.f6 false true false false) := by
  refine returnsInHanded_of_row (C := Tryd.checked) (s := OpenSpec.ofChange Rows.compileCheckMatchesReferenceSpec) own started (by kernel_rfl) Tryd.func6
    (witness_row_at (enc := enc) (C := Tryd.checked) false (Px.laidWorldF os) #[.slice none 0 0] rfl (by kernel_rfl) (by kernel_rfl) (by kernel_rfl) (witness_row os enc)) ?_
  intro W base args ds gs before hval0 hW hcnd hknd hsz0 hL hSh _
  have hGS : Px.GF W := Px.gf_of hL hSh
  have hsz : (DataW.weightsEach Tryd.prog (Tryd.f6.params.toList ++ Rows.compileCheckMatchesReferenceSpec.plain.varTypes Tryd.prog) (ds ++ gs)).all (· ≤ reachBytes) = true := hsz0
  have hval : ∀ (j : Nat) t v, Tryd.f6.params[j]? = some t → args[j]? = some v → Value.okWide Tryd.prog W .any base t v := hval0
  have hW' := hW
  obtain ⟨p, q, hA0, hV, rfl, hfz, hnd⟩ := hW
  have hA : DataW.TrodAll enc Tryd.prog W 0 (fun _ => true) true Tryd.f6.params.toList args.toList ds p := hA0
  rw [Tryd.params6] at hA hval hsz
  obtain ⟨v0, vs0, d0, ds0, p0, q0, hargs, rfl, rfl, h0, r0⟩ := trodAll_cons hA
  obtain ⟨rfl, rfl, rfl⟩ := trodAll_nil r0
  obtain rfl : args = #[v0] := by cases args; simp_all
  obtain ⟨rfl, rfl⟩ := trodVars_none hV
  obtain ⟨a0, len0, cap0, rfl⟩ := okWide_slice Tryd.underlying30 (hval 0 30 v0 rfl rfl)
  have k0 := h0
  have lt0 : ∀ x ∈ p0, x.block < W.heap.size := by obtain ⟨m, hm⟩ := k0; exact DataW.trod_lt m _ _ _ hm
  have n0 : Px.InsIn W [.slice a0 len0 cap0] d0 := by obtain ⟨fuel, hf⟩ := h0; exact Px.open_ins fuel _ _ hf
  clear hA0 hval0 hsz0
  refine (Px.checkref_in W hGS n0 (fun n hn => by have h := List.all_eq_true.1 hsz n (DataW.weights_mem_each (j := 0) (t := 30) rfl rfl n hn); have h2 : n ≤ reachBytes := of_decide_eq_true h; exact h2)).mono fun e W' ⟨he, bel⟩ => ?_
  subst he
  exact ⟨_, rfl, _, _, _, [], _, [], hW', trodAll_mk1 (shut_bool Tryd.underlying4 _), (trodAll_cons_mk (Below.trod laidOut (by kernel_rfl) (of_decide_eq_true (by kernel_rfl)) k0 bel lt0) trodAll_mk0), rfl, bel.frame _, fun h => by cases h⟩
theorem over : Rows.CompileCheckMatchesReferenceSaid :=
  OpenClaim.holds_of_cond 6 Tryd.f6 rfl rfl rfl rfl rfl rfl rfl ⟨rfl, rfl, rfl, rfl, rfl⟩ rfl rfl rfl rfl rfl (by kernel_rfl) Tryd.func6 (by kernel_rfl)
    (of_decide_eq_true (by kernel_rfl)) (by unfold Func.isWrapper; first | (rw [if_pos (by decide +kernel)]; kernel_rfl) | (rw [if_neg (by decide +kernel)]; exact ⟨rfl, rfl⟩))
    (fun os started H enc _ F0 => by rw [OpenClaim.pre_eq_preRow]; exact lifted os started H enc F0)
theorem card : Rows.CompileCheckMatchesReferenceCardSaid :=
  Claim7.holds_tied_plain_at .later [] [.data, .data, .data, .pinned] true (true, "7e176a3dcfb80559f05cde8997a98f38ddc5fdd934dd440ddd13236ad4ba08b2") true
    over (fun _ h => by cases h) (by kernel_rfl) (fun _ h => by cases h) compileCheckMatchesReference_row_tie rfl ⟨rfl, rfl⟩ (by kernel_rfl) rfl
    (fun f fn hf hfn => by
      obtain rfl : f = 6 := Option.some.inj ((show Tryd.prog.funcNamed "tmplpipe/tmplpipelaw17.CompileCheckMatchesReference" = some 6 by kernel_rfl).symm.trans hf) |>.symm
      obtain rfl : fn = Tryd.f6 := (Option.some.inj (Tryd.func6.symm.trans hfn)).symm
      exact ⟨by kernel_rfl, fun j t ht => by
        rw [Tryd.params6] at ht
        have h3 : t = 30 := by
          rcases j with _ | _
          · simp at ht; simp [← ht]
          · simp at ht
        subst h3
        exact (show Tryd.prog.wantsStandIn 30 = false by kernel_rfl)⟩)
    (by kernel_rfl)
#print axioms card
end Go.Proofs.YtkpnfejfbmandaaDoor.compileCheckMatchesReference
namespace Go.Proofs.YtkpnfejfbmandaaDoor
theorem compileCheckMatchesReference_holds : Rows.CompileCheckMatchesReferenceCardSaid := compileCheckMatchesReference.card
end Go.Proofs.YtkpnfejfbmandaaDoor
