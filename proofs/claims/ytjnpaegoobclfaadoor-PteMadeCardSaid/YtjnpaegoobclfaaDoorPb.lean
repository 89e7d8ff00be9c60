/-
  'sallyportlaw10.PteMade': the tied card: the answer is true at every input; no condition.
-/
import Derived.Test.YtjnpaegoobclfaaDoorTie
import Derived.Test.YtjnpaegoobclfaaDoorCards
import Derived.Test.YtjnpaegoobclfaaDoorLa
import Derived.LaidMore
import Derived.OpenShut
import Derived.Stop.Joined
import Derived.SevenTiedAt
set_option linter.unusedVariables false
set_option maxRecDepth 100000
namespace Go.Proofs.YtjnpaegoobclfaaDoor
open Go Go.Ev PV

theorem Tryd.own : ownKnob Tryd.prog.godebug = none := by kernel_rfl

theorem pteMade_met (os : Os) (args : Array Value) : laidMetH Tryd.prog Rows.pteMadeRow.laid ((World.doorLaid Tryd.prog 400 os).forCall (fun _ _ => 0) ⟨#[], args, []⟩).memory :=
  laidMetH_of_parts3 (fuel := 8) (laidMet_of_run' 8 (by kernel_rfl) (by kernel_rfl)) (by kernel_rfl) (by kernel_rfl)

theorem pteMade_lifted (os : Os) (started : os.Started) (H : Type) (enc : TypeId × Value → H) :
    ReturnsInHanded {} Tryd.checked os 5 .any (fun w args => (Rows.pteMadeSpec.pre enc Tryd.prog Tryd.f5 [] false w args ∧ laidMetH Tryd.prog Rows.pteMadeRow.laid w) ∧ sizedMet enc Tryd.prog Tryd.f5 (OpenSpec.ofChange Rows.pteMadeSpec) false w args)
      (Rows.pteMadeSpec.post enc Tryd.prog Tryd.f5 false true false false) := by
  refine returnsInHanded_of_change_and (C := Tryd.checked) (X := fun w _ => laidMetH Tryd.prog Rows.pteMadeRow.laid w) (fun _ _ _ hh h => h.of_heap hh) Tryd.own started (by kernel_rfl) Tryd.func5
    (ChangeSpec.witness_shaped (enc := enc) (C := Tryd.checked) (os := os) (X := fun w _ => laidMetH Tryd.prog Rows.pteMadeRow.laid w) false (World.doorLaid Tryd.prog 400 os) #[.int .u8 0, .int .u8 0] 8 rfl (World.shaped_of_RefB (by kernel_rfl) (by kernel_rfl)) (by kernel_rfl) (by kernel_rfl) (by kernel_rfl) (pteMade_met os _)) ?_
  intro W base args ds gs before hval hW _ _ hL _
  refine plain_contract (P := Tryd.prog) sallyportlaw10_PteMadeP (c := (Tryd.f5.body).getD .skip) (by kernel_rfl) (d := 8) (by kernel_rfl) (tb := 4) (by kernel_rfl) Tryd.underlying4 (by kernel_rfl) ?_
    (law_row sallyportlaw10_PteMadeO fun g hg => ?_) W args ds gs before hval hW
  · intro ds hds
    match ds, hds with
    | [_, _], _ => rfl
  · show AV.bl _ = AV.bl true
    rw [pteMade_true (inR_u8 hg.2.2.1) (inR_u8 hg.2.2.2.1)]

theorem pteMade_row_holds : Rows.PteMadeSaid :=
  OpenClaim.holds_of_wide 5 Tryd.f5 rfl rfl rfl rfl rfl rfl rfl ⟨rfl, rfl, rfl, rfl, rfl⟩ rfl rfl rfl rfl rfl (by kernel_rfl) Tryd.func5 (by kernel_rfl)
    (of_decide_eq_true (by kernel_rfl)) (by unfold Func.isWrapper; first | (rw [if_pos (by decide +kernel)]; kernel_rfl) | (rw [if_neg (by decide +kernel)]; exact ⟨rfl, rfl⟩))
    (fun os started H enc _ => pteMade_lifted os started H enc)

theorem pteMade_holds : Rows.PteMadeCardSaid :=
  Claim7.holds_tied_plain_at .later [] [.data, .data, .data] true (true, "ce2b199519df1b1ca2a532c4abdd79ac3a47fe74d77171a561fa3683c2e2c63f") false
    pteMade_row_holds (fun _ h => by cases h) (by kernel_rfl) (fun _ h => by cases h) pteMade_row_tie rfl ⟨rfl, rfl⟩ (by kernel_rfl) rfl
    (fun f fn hf hfn => by
      obtain rfl : f = 5 := Option.some.inj ((show Tryd.prog.funcNamed "sallyport/sallyportlaw10.PteMade" = some 5 by kernel_rfl).symm.trans hf) |>.symm
      obtain rfl : fn = Tryd.f5 := (Option.some.inj (Tryd.func5.symm.trans hfn)).symm
      refine ⟨by kernel_rfl, fun j t ht => ?_⟩
      have hall : (Tryd.f5.params.toList.all fun u => !Tryd.prog.wantsStandIn u) = true := by kernel_rfl
      have := List.all_eq_true.1 hall t (Array.mem_toList_iff.2 (Array.mem_of_getElem? ht))
      exact (show Tryd.prog.wantsStandIn t = false by simpa using this))
    (by kernel_rfl)

end Go.Proofs.YtjnpaegoobclfaaDoor
