/-
  'sallyportlaw10.PteUsers': the tied card: the answer is true at every input; no condition.
-/
import Derived.Test.YtjnpaegoobclfaaDoorTie
import Derived.Test.YtjnpaegoobclfaaDoorCards
import Derived.Test.YtjnpaegoobclfaaDoorLa
import Derived.LaidMore
import Derived.OpenShut
import Derived.Stop.Joined
import Derived.SevenTiedAt
set_option linter.unusedVariables false
set_option maxRecDepth 100000
namespace Go.Proofs.YtjnpaegoobclfaaDoor
open Go Go.Ev PV

theorem Tryd.own : ownKnob Tryd.prog.godebug = none := by kernel_rfl

theorem pteUsers_met (os : Os) (args : Array Value) : laidMetH Tryd.prog Rows.pteUsersRow.laid ((World.doorLaid Tryd.prog 400 os).forCall (fun _ _ => 0) ⟨#[], args, []⟩).memory :=
  laidMetH_of_parts3 (fuel := 8) (laidMet_of_run' 8 (by kernel_rfl) (by kernel_rfl)) (by kernel_rfl) (by kernel_rfl)

theorem pteUsers_lifted (os : Os) (started : os.Started) (H : Type) (enc : TypeId × Value → H) :
    ReturnsInHanded {} Tryd.checked os 6 .any (fun w args => (Rows.pteUsersSpec.pre enc Tryd.prog Tryd.f6 [] false w args ∧ laidMetH Tryd.prog Rows.pteUsersRow.laid w) ∧ sizedMet enc Tryd.prog Tryd.f6 (OpenSpec.ofChange Rows.pteUsersSpec) false w args)
      (Rows.pteUsersSpec.post enc Tryd.prog Tryd.f6 false true false false) := by
  refine returnsInHanded_of_change_and (C := Tryd.checked) (X := fun w _ => laidMetH Tryd.prog Rows.pteUsersRow.laid w) (fun _ _ _ hh h => h.of_heap hh) Tryd.own started (by kernel_rfl) Tryd.func6
    (ChangeSpec.witness_shaped (enc := enc) (C := Tryd.checked) (os := os) (X := fun w _ => laidMetH Tryd.prog Rows.pteUsersRow.laid w) false (World.doorLaid Tryd.prog 400 os) #[.int .u8 0, .bool false] 8 rfl (World.shaped_of_RefB (by kernel_rfl) (by kernel_rfl)) (by kernel_rfl) (by kernel_rfl) (by kernel_rfl) (pteUsers_met os _)) ?_
  intro W base args ds gs before hval hW _ _ hL _
  refine plain_contract (P := Tryd.prog) sallyportlaw10_PteUsersP (c := (Tryd.f6.body).getD .skip) (by kernel_rfl) (d := 8) (by kernel_rfl) (tb := 4) (by kernel_rfl) Tryd.underlying4 (by kernel_rfl) ?_
    (law_row sallyportlaw10_PteUsersO fun g hg => ?_) W args ds gs before hval hW
  · intro ds hds
    match ds, hds with
    | [_, _], _ => rfl
  · show AV.bl _ = AV.bl true
    rw [pteUsers_true (inR_u8 hg.2.2.1)]

theorem pteUsers_row_holds : Rows.PteUsersSaid :=
  OpenClaim.holds_of_wide 6 Tryd.f6 rfl rfl rfl rfl rfl rfl rfl ⟨rfl, rfl, rfl, rfl, rfl⟩ rfl rfl rfl rfl rfl (by kernel_rfl) Tryd.func6 (by kernel_rfl)
    (of_decide_eq_true (by kernel_rfl)) (by unfold Func.isWrapper; first | (rw [if_pos (by decide +kernel)]; kernel_rfl) | (rw [if_neg (by decide +kernel)]; exact ⟨rfl, rfl⟩))
    (fun os started H enc _ => pteUsers_lifted os started H enc)

theorem pteUsers_holds : Rows.PteUsersCardSaid :=
  Claim7.holds_tied_plain_at .later [] [.data, .data, .data] true (true, "ce2b199519df1b1ca2a532c4abdd79ac3a47fe74d77171a561fa3683c2e2c63f") false
    pteUsers_row_holds (fun _ h => by cases h) (by kernel_rfl) (fun _ h => by cases h) pteUsers_row_tie rfl ⟨rfl, rfl⟩ (by kernel_rfl) rfl
    (fun f fn hf hfn => by
      obtain rfl : f = 6 := Option.some.inj ((show Tryd.prog.funcNamed "sallyport/sallyportlaw10.PteUsers" = some 6 by kernel_rfl).symm.trans hf) |>.symm
      obtain rfl : fn = Tryd.f6 := (Option.some.inj (Tryd.func6.symm.trans hfn)).symm
      refine ⟨by kernel_rfl, fun j t ht => ?_⟩
      have hall : (Tryd.f6.params.toList.all fun u => !Tryd.prog.wantsStandIn u) = true := by kernel_rfl
      have := List.all_eq_true.1 hall t (Array.mem_toList_iff.2 (Array.mem_of_getElem? ht))
      exact (show Tryd.prog.wantsStandIn t = false by simpa using this))
    (by kernel_rfl)

end Go.Proofs.YtjnpaegoobclfaaDoor
