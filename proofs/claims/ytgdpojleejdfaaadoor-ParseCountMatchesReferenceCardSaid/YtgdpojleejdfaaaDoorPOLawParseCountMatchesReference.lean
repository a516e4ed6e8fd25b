/- The row and the tied card of ParseCountMatchesReference: for every input the law returns true; each argument reads behind the call as before; package-level variables start as the program's text lays them. -/
import Derived.Test.YtgdpojleejdfaaaDoorRows
import Derived.Test.YtgdpojleejdfaaaDoorCards
import Derived.Test.YtgdpojleejdfaaaDoorTie
import Derived.Test.YtgdpojleejdfaaaDoorPOGl
import Derived.Test.YtgdpojleejdfaaaDoorPOPureParseCountMatchesReference
import Derived.WalkKit
import Derived.ProofKit
import Derived.OpenShut
import Derived.ShutString
import Derived.ChangeOld
import Derived.Below
import Derived.SizedLaws
import Derived.SevenTiedAt
namespace Go.Proofs.YtgdpojleejdfaaaDoor.parseCountMatchesReference
open Go.ChangeShapes Go.WideShapes Go.ChangeAt Go.RowKit
open Go.ChangeMaps (open_string shut_string)
set_option linter.unusedVariables false
theorem laidOut : laidOutB Tryd.prog = true := by kernel_rfl
theorem own : ownKnob Tryd.prog.godebug = none := by kernel_rfl
theorem witness_row (os : Os) {H : Type} (enc : TypeId × Value → H) :
    (OpenSpec.ofChange Rows.parseCountMatchesReferenceSpec).preRow enc Tryd.prog Tryd.f10 Rows.parseCountMatchesReferenceRow.domain false Rows.parseCountMatchesReferenceRow.laid ((Px.laidWorld os).forCall (fun _ _ => 0) ⟨#[], #[.slice none 0 0], []⟩).memory #[.slice none 0 0] := by
  have hw : (DataW.whole enc Tryd.prog ((Px.laidWorld os).forCall (fun _ _ => 0) ⟨#[], #[.slice none 0 0], []⟩).memory Tryd.f10.params.toList (OpenSpec.ofChange Rows.parseCountMatchesReferenceSpec).vars false #[.slice none 0 0].toList 8).map (fun x => (x.1, x.2.1)) =
      some ([.nil], []) := by kernel_rfl
  obtain ⟨⟨x1, x2, x3⟩, hx, hx1⟩ := Option.map_eq_some_iff.1 hw
  simp only [Prod.mk.injEq] at hx1
  obtain ⟨rfl, rfl⟩ := hx1
  exact OpenSpec.preRow_of_cond 8 hx (by kernel_rfl) (fun k hk => by cases hk) (by kernel_rfl) (Px.laid_met os _)
set_option maxRecDepth 100000 in
theorem lifted (os : Os) (started : os.Started) (H : Type) (enc : TypeId × Value → H) (F0 : Stop.Interp) :
    ReturnsInHanded {} Tryd.checked os 10 .any ((OpenSpec.ofChange Rows.parseCountMatchesReferenceSpec).preRow enc Tryd.prog Tryd.f10 Rows.parseCountMatchesReferenceRow.domain false Rows.parseCountMatchesReferenceRow.laid) (((OpenSpec.ofChange Rows.parseCountMatchesReferenceSpec).at F0).post enc Tryd.prog Tryd.f10 false true false false) := by
  refine returnsInHanded_of_row (C := Tryd.checked) (s := OpenSpec.ofChange Rows.parseCountMatchesReferenceSpec) own started (by kernel_rfl) Tryd.func10
    (witness_row_at (enc := enc) (C := Tryd.checked) false (Px.laidWorld os) #[.slice none 0 0] rfl (by kernel_rfl) (by kernel_rfl) (by kernel_rfl) (witness_row os enc)) ?_
  intro W base args ds gs before hval0 hW hcnd hknd hsz0 hL hSh _
  have hGS : Px.GS W := Px.gs_of hL hSh
  have hsz : (DataW.weightsEach Tryd.prog (Tryd.f10.params.toList ++ Rows.parseCountMatchesReferenceSpec.plain.varTypes Tryd.prog) (ds ++ gs)).all (· ≤ reachBytes) = true := hsz0
  have hval : ∀ (j : Nat) t v, Tryd.f10.params[j]? = some t → args[j]? = some v → Value.okWide Tryd.prog W .any base t v := hval0
  have hW' := hW
  obtain ⟨p, q, hA0, hV, rfl, hfz, hnd⟩ := hW
  have hA : DataW.TrodAll enc Tryd.prog W 0 (fun _ => true) true Tryd.f10.params.toList args.toList ds p := hA0
  rw [Tryd.params10] at hA hval hsz
  obtain ⟨v0, vs0, d0, ds0, p0, q0, hargs, rfl, rfl, h0, r0⟩ := trodAll_cons hA
  obtain ⟨rfl, rfl, rfl⟩ := trodAll_nil r0
  obtain rfl : args = #[v0] := by cases args; simp_all
  obtain ⟨rfl, rfl⟩ := trodVars_none hV
  obtain ⟨a0, len0, cap0, rfl⟩ := okWide_slice Tryd.underlying32 (hval 0 32 v0 rfl rfl)
  have k0 := h0
  have lt0 : ∀ x ∈ p0, x.block < W.heap.size := by obtain ⟨m, hm⟩ := k0; exact DataW.trod_lt m _ _ _ hm
  have n0 : Px.NodesIn W [.slice a0 len0 cap0] := by obtain ⟨fuel, hf⟩ := h0; exact Px.open_nodes fuel _ _ hf
  clear hA0 hval0 hsz0 hsz
  refine (Px.countLaw_walk a0 len0 cap0 W hGS n0).mono fun e W' ⟨he, bel⟩ => ?_
  subst he
  exact ⟨_, rfl, _, _, _, [], _, [], hW', trodAll_mk1 (shut_bool Tryd.underlying4 _), (trodAll_cons_mk (Below.trod laidOut (by kernel_rfl) (of_decide_eq_true (by kernel_rfl)) k0 bel lt0) trodAll_mk0), rfl, bel.frame _, fun h => by cases h⟩
theorem over : Rows.ParseCountMatchesReferenceSaid :=
  OpenClaim.holds_of_cond 10 Tryd.f10 rfl rfl rfl rfl rfl rfl rfl ⟨rfl, rfl, rfl, rfl, rfl⟩ rfl rfl rfl rfl rfl (by kernel_rfl) Tryd.func10 (by kernel_rfl)
    (of_decide_eq_true (by kernel_rfl)) (by unfold Func.isWrapper; first | (rw [if_pos (by decide +kernel)]; kernel_rfl) | (rw [if_neg (by decide +kernel)]; exact ⟨rfl, rfl⟩))
    (fun os started H enc _ F0 => by rw [OpenClaim.pre_eq_preRow]; exact lifted os started H enc F0)
theorem card : Rows.ParseCountMatchesReferenceCardSaid :=
  Claim7.holds_tied_plain_at .later [] [.data, .data, .pinned] true (true, "2a440196210400f6be62f69bb635f593857fe3af54fdc94819d83879729df00d") true
    over (fun _ h => by cases h) (by kernel_rfl) (fun _ h => by cases h) parseCountMatchesReference_row_tie rfl ⟨rfl, rfl⟩ (by kernel_rfl) rfl
    (fun f fn hf hfn => by
      obtain rfl : f = 10 := Option.some.inj ((show Tryd.prog.funcNamed "tmplpipe/tmplpipelaw12.ParseCountMatchesReference" = some 10 by kernel_rfl).symm.trans hf) |>.symm
      obtain rfl : fn = Tryd.f10 := (Option.some.inj (Tryd.func10.symm.trans hfn)).symm
      exact ⟨by kernel_rfl, fun j t ht => by
        rw [Tryd.params10] at ht
        have h3 : t = 32 := by
          rcases j with _ | _
          · simp at ht; simp [← ht]
          · simp at ht
        subst h3
        exact (show Tryd.prog.wantsStandIn 32 = false by kernel_rfl)⟩)
    (by kernel_rfl)
#print axioms card
end Go.Proofs.YtgdpojleejdfaaaDoor.parseCountMatchesReference
namespace Go.Proofs.YtgdpojleejdfaaaDoor
/-- The tied card, under a short name, for the claim. -/
theorem parseCountMatchesReference_holds : Rows.ParseCountMatchesReferenceCardSaid := parseCountMatchesReference.card
end Go.Proofs.YtgdpojleejdfaaaDoor
