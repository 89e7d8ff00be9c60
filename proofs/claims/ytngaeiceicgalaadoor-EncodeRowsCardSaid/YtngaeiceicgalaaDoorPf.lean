/-
  EncodeRows: the tied card: the answer is true at every input; no condition.
-/
import Derived.Test.YtngaeiceicgalaaDoorTie
import Derived.Test.YtngaeiceicgalaaDoorCards
import Derived.Test.YtngaeiceicgalaaDoorLf
import Derived.Test.YtngaeiceicgalaaDoorEwB
import Derived.LaidMore
import Derived.OpenShut
import Derived.Stop.Joined
import Derived.SevenTiedAt
import Derived.MakeChecks
import Derived.Stop.LaidErr
set_option linter.unusedVariables false
set_option maxRecDepth 100000
namespace Go.Proofs.YtngaeiceicgalaaDoor
open Go Go.Ev PV

theorem Tryd.own : ownKnob Tryd.prog.godebug = none := by kernel_rfl

theorem encodeRows_held {W : World} (h : laidMetH Tryd.prog Rows.encodeRowsRow.laid W) : Held (fun b => W.heap.size ≤ b) W := by
  rw [Go.MakeChecks.laidMetH_plain _ _ _ (by kernel_rfl)] at h
  have ht := Lib.tabIs_of_head (P := Tryd.prog) (k := .u64) (zs := Lib.pow10Tab) (g := 0) (t := 134) (e := 37) (n := 20) (rest := []) (by kernel_rfl) (by kernel_rfl) Tryd.underlying134 Tryd.underlying37 (by kernel_rfl) (by kernel_rfl) h.tail.tail
  intro x hx
  obtain rfl := List.mem_singleton.1 hx
  unfold Lib.TabIs World.var? at ht
  rw [show Tryd.prog.globalNamed _ = some 0 by kernel_rfl] at ht
  simp only [Option.bind_some] at ht
  cases h0 : W.heap[0]? with
  | none => rw [h0] at ht; cases ht
  | some o =>
    rw [h0] at ht
    have hlt := (Array.getElem?_eq_some_iff.1 h0).1
    cases o with
    | cells c e z => cases ht; exact ⟨⟨_, _, rfl⟩, by show ¬ W.heap.size ≤ 0; omega⟩
    | _ => cases ht

theorem Tryd.lay : laidOutB Tryd.prog = true := by kernel_rfl

theorem encodeRows_met (os : Os) (args : Array Value) : laidMetH Tryd.prog Rows.encodeRowsRow.laid ((World.doorLaid Tryd.prog 400 os).forCall (fun _ _ => 0) ⟨#[], args, []⟩).memory :=
  laidMetH_of_parts3 (fuel := 8) (laidMet_of_run' 8 (by kernel_rfl) (by kernel_rfl)) (by kernel_rfl) (by kernel_rfl)

theorem encodeRows_lifted (os : Os) (started : os.Started) (H : Type) (enc : TypeId × Value → H) :
    ReturnsInHanded {} Tryd.checked os 4 .any (fun w args => (Rows.encodeRowsSpec.pre enc Tryd.prog Tryd.f4 [] false w args ∧ laidMetH Tryd.prog Rows.encodeRowsRow.laid w) ∧ sizedMet enc Tryd.prog Tryd.f4 (OpenSpec.ofChange Rows.encodeRowsSpec) false w args)
      (Rows.encodeRowsSpec.post enc Tryd.prog Tryd.f4 false true false false) := by
  refine returnsInHanded_of_change_and (C := Tryd.checked) (X := fun w _ => laidMetH Tryd.prog Rows.encodeRowsRow.laid w) (fun _ _ _ hh h => h.of_heap hh) Tryd.own started (by kernel_rfl) Tryd.func4
    (ChangeSpec.witness_shaped (enc := enc) (C := Tryd.checked) (os := os) (X := fun w _ => laidMetH Tryd.prog Rows.encodeRowsRow.laid w) false (World.doorLaid Tryd.prog 400 os) #[.slice none 0 0] 8 rfl (World.shaped_of_RefB (by kernel_rfl) (by kernel_rfl)) (by kernel_rfl) (by kernel_rfl) (by kernel_rfl) (encodeRows_met os _)) ?_
  intro W base args ds gs before hval hW _ _ hL _
  refine mem_contract (P := Tryd.prog) rows_P (c := (Tryd.f4.body).getD .skip) (by kernel_rfl) (d := 8) (by kernel_rfl) (tb := 4) (by kernel_rfl) Tryd.underlying4 (by kernel_rfl) ?_
    Tryd.lay (of_decide_eq_true (by kernel_rfl)) rows_law W args ds gs before hval hW (encodeRows_held hL)
  · intro ds hds
    match ds, hds with
    | [_], _ => rfl


theorem encodeRows_row_holds : Rows.EncodeRowsSaid :=
  OpenClaim.holds_of_wide 4 Tryd.f4 rfl rfl rfl rfl rfl rfl rfl ⟨rfl, rfl, rfl, rfl, rfl⟩ rfl rfl rfl rfl rfl (by kernel_rfl) Tryd.func4 (by kernel_rfl)
    (of_decide_eq_true (by kernel_rfl)) (by unfold Func.isWrapper; first | (rw [if_pos (by decide +kernel)]; kernel_rfl) | (rw [if_neg (by decide +kernel)]; exact ⟨rfl, rfl⟩))
    (fun os started H enc _ => encodeRows_lifted os started H enc)

theorem encodeRows_holds : Rows.EncodeRowsCardSaid :=
  Claim7.holds_tied_plain_at .later [] [.data, .data, .data] true (true, "e85b471533840e3e58463478965a9a1b2055fdc93316cd0988a16f56ec8704d9") false
    encodeRows_row_holds (fun _ h => by cases h) (by kernel_rfl) (fun _ h => by cases h) encodeRows_row_tie rfl ⟨rfl, rfl⟩ (by kernel_rfl) rfl
    (fun f fn hf hfn => by
      obtain rfl : f = 4 := Option.some.inj ((show Tryd.prog.funcNamed "sallyport/sallyportlaw4.EncodeRows" = some 4 by kernel_rfl).symm.trans hf) |>.symm
      obtain rfl : fn = Tryd.f4 := (Option.some.inj (Tryd.func4.symm.trans hfn)).symm
      refine ⟨by kernel_rfl, fun j t ht => ?_⟩
      have hall : (Tryd.f4.params.toList.all fun u => !Tryd.prog.wantsStandIn u) = true := by kernel_rfl
      have := List.all_eq_true.1 hall t (Array.mem_toList_iff.2 (Array.mem_of_getElem? ht))
      exact (show Tryd.prog.wantsStandIn t = false by simpa using this))
    (by kernel_rfl)

end Go.Proofs.YtngaeiceicgalaaDoor
