/-
  What Flush leaves; the check of known entries.
-/
import Derived.Test.YtcmknfnnapnecaaUh
set_option linter.unusedVariables false
set_option linter.unusedSimpArgs false
set_option maxRecDepth 100000
namespace Go.Proofs.Ytcmknfnnapnecaa.PV
noncomputable section
open Go Go.Ev

theorem flush_val (T : Tab) : flushVV T = .tup [.it .i64 0, .it .i64 (allN T), tlbA fun _ => noEn] := by
  have h : flushV1 T = (allN T : Int) := by
    unfold flushV1
    cases hc : (allN T).beq 0 with
    | false => rfl
    | true => rw [Nat.eq_of_beq_eq_true hc]; rfl
  unfold flushVV
  rw [h]
  rfl
theorem flush_small (T : Tab) : Small Try.prog 16 [.pt 0 [] tlbSh] (mem1 (tlbA T)) (.it .i64 (allN T)) (mem1 (tlbA fun _ => noEn)) :=
  small_ok mix fair NPC_ok (HH2_ok MT_ok MT2_ok) (f := 16) ⟨Try.func16, of_decide_eq_true (by kernel_rfl)⟩ (fun c _ => OvOk_none c) ((flushVE T).trans (by rw [flush_val, flushVT])) rfl rfl rfl rfl rfl rfl
def flushRow : MRow := rowB tlbSh [] (fun _ t => .it .i64 (allN (deT t))) (fun _ _ => tlbA fun _ => noEn)
theorem flushRow_ok : MRowOk Try.prog 16 flushRow := rowB_ok rfl rfl (fun _ _ => rfl) (fun _ _ => rfl) fun g t => flush_small (deT t)

def MTf : List (FuncId × MRow) := (16, flushRow) :: MT
theorem MTf_ok : MOk Try.prog MTf := ⟨flushRow_ok, MT_ok⟩

/-- A function without arguments that answers so, and leaves nothing. -/
def row0 (v : AV) : MRow := fun args _ => match args with
  | [] => some (none, [], v, Mem.empty)
  | _ => none
theorem row0_ok {f : FuncId} {v : AV} (hv : okV v = true) (h : Small Try.prog f [] Mem.empty v Mem.empty) : MRowOk Try.prog f (row0 v) := fun args m c τ u m1 he _ => by
  unfold row0 at he
  split at he <;> try (cases he; done)
  cases he
  refine ⟨[], Mem.empty, h, ⟨List.nodup_nil, rfl, trivial, fun i hi => ?_, fun i b hb => ?_⟩, Nat.le_refl _, hv, fun i b hb => ?_⟩
  · simp at hi
  · simp only [Mem.get, Mem.empty, Tr.get_mk] at hb; cases hb
  · simp only [Mem.get, Mem.empty, Tr.get_mk] at hb; cases hb
def L0 : Lq := { n := 1, n0 := 0, ts := [0], mv := [], ids := [] }
end
end Go.Proofs.Ytcmknfnnapnecaa.PV
