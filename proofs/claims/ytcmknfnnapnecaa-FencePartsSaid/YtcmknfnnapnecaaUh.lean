/-
  Rounds of the comparison of two rows of entries; what Flush leaves; evaluated. Printed by a program of the prover's own (wip/prt).
-/
import Derived.Test.YtcmknfnnapnecaaRows
import Derived.Test.YtcmknfnnapnecaaEvW
import Derived.Test.YtcmknfnnapnecaaUg
set_option linter.unusedVariables false
set_option linter.unusedSimpArgs false
namespace Go.Proofs.Ytcmknfnnapnecaa.PV
noncomputable section
open Go Go.Ev
def sameL : Lq := { n := 26, n0 := 2, ts := [0, 1, 4, 5], mv := [], ids := [(0, true), (1, true)] }
def same14L : Lq := { n := 26, n0 := 2, ts := [0, 1, 4, 5], mv := [], ids := [(0, true), (1, true)] }
theorem MTX_ok : MOk Try.prog [(35, findRow), (37, atRow), (12, fillRow), (18, fillRow), (13, lookRow), (21, lookRow), (15, dropRow)] := ⟨findRow_ok, atRow_ok, fillRow_ok, rfillRow_ok, lookRow_ok, rlookRow_ok, dropRow_ok, trivial⟩
def MT : List (FuncId × MRow) := [(35, findRow), (37, atRow), (12, fillRow), (18, fillRow), (13, lookRow), (21, lookRow), (15, dropRow)]
theorem MT_ok : MOk Try.prog MT := MTX_ok
def MT2 : List (FuncId × MRow2) := [(14, allRow), (20, allRow)]
theorem MT2_ok : MOk2 Try.prog MT2 := ⟨allRow_ok, rallRow_ok, trivial⟩
/-- .. and those that end in one of two forms. -/
noncomputable def HH2 (tb : List (FuncId × MRow)) (tb2 : List (FuncId × MRow2)) : Hd := inlO Try.prog okT NPC RO FS 100 ST (fun h => hMem tb (hMem2 tb2 h)) 8
theorem HH2_ok {tb : List (FuncId × MRow)} {tb2 : List (FuncId × MRow2)} (h : MOk Try.prog tb) (h2 : MOk2 Try.prog tb2) : HSound Try.prog (HH2 tb tb2) := inlO_ok mix fair NPC_ok FS_ok (fun _ hh => hMem_ok (hMem2_ok hh h2) h) 8
/- sameA -/
def sameA0 (E : Tab) (G : Tab) (n : Nat) (m : Nat) (b : Bool) (i : Int) : Int :=
  iAdd IntKind.i64 i 1
def sameAG (E : Tab) (G : Tab) (n : Nat) (m : Nat) (b : Bool) (i : Int) : Bool :=
  iLt i ↑n &&
    (iIn i n &&
      (iIn i m &&
        (!!((E (i.toNat + 0)).ok == (G (i.toNat + 0)).ok &&
                ((E (i.toNat + 0)).v == (G (i.toNat + 0)).v &&
                  (iEq (E (i.toNat + 0)).page (G (i.toNat + 0)).page &&
                    (iEq (E (i.toNat + 0)).asid (G (i.toNat + 0)).asid &&
                      (iEq (E (i.toNat + 0)).vmid (G (i.toNat + 0)).vmid &&
                        (iEq (E (i.toNat + 0)).frame (G (i.toNat + 0)).frame &&
                          (iEq (E (i.toNat + 0)).bits (G (i.toNat + 0)).bits &&
                            (iEq (E (i.toNat + 0)).host (G (i.toNat + 0)).host && (iEq (E (i.toNat + 0)).guest (G (i.toNat + 0)).guest && true))))))))) &&
          true)))
def sameAV (E : Tab) (G : Tab) (n : Nat) (m : Nat) (b : Bool) (i : Int) : AV := .tup [.it .i64 0, .sl 0 [] (0) (n) true, .sl 1 [] (0) (m) true, .bl b, .it .i64 (sameA0 E G n m b i), .arr (n) (.agg [.bool, .bool, (.int .i64), (.int .i64), (.int .i64), (.int .i64), (.int .i64), (.int .i64), (.int .i64)]) fun i0 => .agg [.bl ((E i0).ok), .bl ((E i0).v), .it .i64 ((E i0).page), .it .i64 ((E i0).asid), .it .i64 ((E i0).vmid), .it .i64 ((E i0).frame), .it .i64 ((E i0).bits), .it .i64 ((E i0).host), .it .i64 ((E i0).guest)], .arr (m) (.agg [.bool, .bool, (.int .i64), (.int .i64), (.int .i64), (.int .i64), (.int .i64), (.int .i64), (.int .i64)]) fun i0 => .agg [.bl ((G i0).ok), .bl ((G i0).v), .it .i64 ((G i0).page), .it .i64 ((G i0).asid), .it .i64 ((G i0).vmid), .it .i64 ((G i0).frame), .it .i64 ((G i0).bits), .it .i64 ((G i0).host), .it .i64 ((G i0).guest)]]
theorem sameAE (E : Tab) (G : Tab) (n : Nat) (m : Nat) (b : Bool) (i : Int) : evC Try.prog okT NPC (HH []) RO NOV 101 false (bodyOf Try.f22.body 0) (sameL.F [.sl 0 [] 0 n true, .sl 1 [] 0 m true, .bl b, .it .i64 i, (.arr n entSh fun j => enA (E j)), (.arr m entSh fun j => enA (G j))]) (sameL.M [.sl 0 [] 0 n true, .sl 1 [] 0 m true, .bl b, .it .i64 i, (.arr n entSh fun j => enA (E j)), (.arr m entSh fun j => enA (G j))]) (grabJ 0 (grabQ sameL)) = some (sameAG E G n m b i, sameAV E G n m b i) := by kernel_rfl

/- sameB -/
def sameBG (E : Tab) (G : Tab) (n : Nat) (m : Nat) (b : Bool) (i : Int) : Bool :=
  iLt i ↑n &&
    (iIn i n &&
      (iIn i m &&
        (!((E (i.toNat + 0)).ok == (G (i.toNat + 0)).ok &&
              ((E (i.toNat + 0)).v == (G (i.toNat + 0)).v &&
                (iEq (E (i.toNat + 0)).page (G (i.toNat + 0)).page &&
                  (iEq (E (i.toNat + 0)).asid (G (i.toNat + 0)).asid &&
                    (iEq (E (i.toNat + 0)).vmid (G (i.toNat + 0)).vmid &&
                      (iEq (E (i.toNat + 0)).frame (G (i.toNat + 0)).frame &&
                        (iEq (E (i.toNat + 0)).bits (G (i.toNat + 0)).bits &&
                          (iEq (E (i.toNat + 0)).host (G (i.toNat + 0)).host && (iEq (E (i.toNat + 0)).guest (G (i.toNat + 0)).guest && true))))))))) &&
          true)))
def sameBV (E : Tab) (G : Tab) (n : Nat) (m : Nat) (b : Bool) (i : Int) : AV := .tup [.it .i64 1, .sl 0 [] (0) (n) true, .sl 1 [] (0) (m) true, .bl false, .it .i64 i, .arr (n) (.agg [.bool, .bool, (.int .i64), (.int .i64), (.int .i64), (.int .i64), (.int .i64), (.int .i64), (.int .i64)]) fun i0 => .agg [.bl ((E i0).ok), .bl ((E i0).v), .it .i64 ((E i0).page), .it .i64 ((E i0).asid), .it .i64 ((E i0).vmid), .it .i64 ((E i0).frame), .it .i64 ((E i0).bits), .it .i64 ((E i0).host), .it .i64 ((E i0).guest)], .arr (m) (.agg [.bool, .bool, (.int .i64), (.int .i64), (.int .i64), (.int .i64), (.int .i64), (.int .i64), (.int .i64)]) fun i0 => .agg [.bl ((G i0).ok), .bl ((G i0).v), .it .i64 ((G i0).page), .it .i64 ((G i0).asid), .it .i64 ((G i0).vmid), .it .i64 ((G i0).frame), .it .i64 ((G i0).bits), .it .i64 ((G i0).host), .it .i64 ((G i0).guest)]]
theorem sameBE (E : Tab) (G : Tab) (n : Nat) (m : Nat) (b : Bool) (i : Int) : evC Try.prog okT NPC (HH []) RO NOV 101 false (bodyOf Try.f22.body 0) (sameL.F [.sl 0 [] 0 n true, .sl 1 [] 0 m true, .bl b, .it .i64 i, (.arr n entSh fun j => enA (E j)), (.arr m entSh fun j => enA (G j))]) (sameL.M [.sl 0 [] 0 n true, .sl 1 [] 0 m true, .bl b, .it .i64 i, (.arr n entSh fun j => enA (E j)), (.arr m entSh fun j => enA (G j))]) (grabJ 1 (grabQ sameL)) = some (sameBG E G n m b i, sameBV E G n m b i) := by kernel_rfl

/- sameX -/
def sameXG (E : Tab) (G : Tab) (n : Nat) (m : Nat) (b : Bool) (i : Int) : Bool :=
  !iLt i ↑n && true
def sameXV (E : Tab) (G : Tab) (n : Nat) (m : Nat) (b : Bool) (i : Int) : AV := .tup [.it .i64 2, .sl 0 [] (0) (n) true, .sl 1 [] (0) (m) true, .bl b, .it .i64 i, .arr (n) (.agg [.bool, .bool, (.int .i64), (.int .i64), (.int .i64), (.int .i64), (.int .i64), (.int .i64), (.int .i64)]) fun i0 => .agg [.bl ((E i0).ok), .bl ((E i0).v), .it .i64 ((E i0).page), .it .i64 ((E i0).asid), .it .i64 ((E i0).vmid), .it .i64 ((E i0).frame), .it .i64 ((E i0).bits), .it .i64 ((E i0).host), .it .i64 ((E i0).guest)], .arr (m) (.agg [.bool, .bool, (.int .i64), (.int .i64), (.int .i64), (.int .i64), (.int .i64), (.int .i64), (.int .i64)]) fun i0 => .agg [.bl ((G i0).ok), .bl ((G i0).v), .it .i64 ((G i0).page), .it .i64 ((G i0).asid), .it .i64 ((G i0).vmid), .it .i64 ((G i0).frame), .it .i64 ((G i0).bits), .it .i64 ((G i0).host), .it .i64 ((G i0).guest)]]
theorem sameXE (E : Tab) (G : Tab) (n : Nat) (m : Nat) (b : Bool) (i : Int) : evC Try.prog okT NPC (HH []) RO NOV 101 false (bodyOf Try.f22.body 0) (sameL.F [.sl 0 [] 0 n true, .sl 1 [] 0 m true, .bl b, .it .i64 i, (.arr n entSh fun j => enA (E j)), (.arr m entSh fun j => enA (G j))]) (sameL.M [.sl 0 [] 0 n true, .sl 1 [] 0 m true, .bl b, .it .i64 i, (.arr n entSh fun j => enA (E j)), (.arr m entSh fun j => enA (G j))]) (grabJ 2 (grabQ sameL)) = some (sameXG E G n m b i, sameXV E G n m b i) := by kernel_rfl

/- same14A -/
def same14A0 (E : Tab) (G : Tab) (n : Nat) (m : Nat) (b : Bool) (i : Int) : Int :=
  iAdd IntKind.i64 i 1
def same14AG (E : Tab) (G : Tab) (n : Nat) (m : Nat) (b : Bool) (i : Int) : Bool :=
  iLt i ↑n &&
    (iIn i n &&
      (iIn i m &&
        (!!((E (i.toNat + 0)).ok == (G (i.toNat + 0)).ok &&
                ((E (i.toNat + 0)).v == (G (i.toNat + 0)).v &&
                  (iEq (E (i.toNat + 0)).page (G (i.toNat + 0)).page &&
                    (iEq (E (i.toNat + 0)).asid (G (i.toNat + 0)).asid &&
                      (iEq (E (i.toNat + 0)).vmid (G (i.toNat + 0)).vmid &&
                        (iEq (E (i.toNat + 0)).frame (G (i.toNat + 0)).frame &&
                          (iEq (E (i.toNat + 0)).bits (G (i.toNat + 0)).bits &&
                            (iEq (E (i.toNat + 0)).host (G (i.toNat + 0)).host && (iEq (E (i.toNat + 0)).guest (G (i.toNat + 0)).guest && true))))))))) &&
          true)))
def same14AV (E : Tab) (G : Tab) (n : Nat) (m : Nat) (b : Bool) (i : Int) : AV := .tup [.it .i64 0, .sl 0 [] (0) (n) true, .sl 1 [] (0) (m) true, .bl b, .it .i64 (same14A0 E G n m b i), .arr (n) (.agg [.bool, .bool, (.int .i64), (.int .i64), (.int .i64), (.int .i64), (.int .i64), (.int .i64), (.int .i64)]) fun i0 => .agg [.bl ((E i0).ok), .bl ((E i0).v), .it .i64 ((E i0).page), .it .i64 ((E i0).asid), .it .i64 ((E i0).vmid), .it .i64 ((E i0).frame), .it .i64 ((E i0).bits), .it .i64 ((E i0).host), .it .i64 ((E i0).guest)], .arr (m) (.agg [.bool, .bool, (.int .i64), (.int .i64), (.int .i64), (.int .i64), (.int .i64), (.int .i64), (.int .i64)]) fun i0 => .agg [.bl ((G i0).ok), .bl ((G i0).v), .it .i64 ((G i0).page), .it .i64 ((G i0).asid), .it .i64 ((G i0).vmid), .it .i64 ((G i0).frame), .it .i64 ((G i0).bits), .it .i64 ((G i0).host), .it .i64 ((G i0).guest)]]
theorem same14AE (E : Tab) (G : Tab) (n : Nat) (m : Nat) (b : Bool) (i : Int) : evC Try.prog okT NPC (HH []) RO NOV 101 false (bodyOf Try.f27.body 0) (same14L.F [.sl 0 [] 0 n true, .sl 1 [] 0 m true, .bl b, .it .i64 i, (.arr n entSh fun j => enA (E j)), (.arr m entSh fun j => enA (G j))]) (same14L.M [.sl 0 [] 0 n true, .sl 1 [] 0 m true, .bl b, .it .i64 i, (.arr n entSh fun j => enA (E j)), (.arr m entSh fun j => enA (G j))]) (grabJ 0 (grabQ same14L)) = some (same14AG E G n m b i, same14AV E G n m b i) := by kernel_rfl

/- same14B -/
def same14BG (E : Tab) (G : Tab) (n : Nat) (m : Nat) (b : Bool) (i : Int) : Bool :=
  iLt i ↑n &&
    (iIn i n &&
      (iIn i m &&
        (!((E (i.toNat + 0)).ok == (G (i.toNat + 0)).ok &&
              ((E (i.toNat + 0)).v == (G (i.toNat + 0)).v &&
                (iEq (E (i.toNat + 0)).page (G (i.toNat + 0)).page &&
                  (iEq (E (i.toNat + 0)).asid (G (i.toNat + 0)).asid &&
                    (iEq (E (i.toNat + 0)).vmid (G (i.toNat + 0)).vmid &&
                      (iEq (E (i.toNat + 0)).frame (G (i.toNat + 0)).frame &&
                        (iEq (E (i.toNat + 0)).bits (G (i.toNat + 0)).bits &&
                          (iEq (E (i.toNat + 0)).host (G (i.toNat + 0)).host && (iEq (E (i.toNat + 0)).guest (G (i.toNat + 0)).guest && true))))))))) &&
          true)))
def same14BV (E : Tab) (G : Tab) (n : Nat) (m : Nat) (b : Bool) (i : Int) : AV := .tup [.it .i64 1, .sl 0 [] (0) (n) true, .sl 1 [] (0) (m) true, .bl false, .it .i64 i, .arr (n) (.agg [.bool, .bool, (.int .i64), (.int .i64), (.int .i64), (.int .i64), (.int .i64), (.int .i64), (.int .i64)]) fun i0 => .agg [.bl ((E i0).ok), .bl ((E i0).v), .it .i64 ((E i0).page), .it .i64 ((E i0).asid), .it .i64 ((E i0).vmid), .it .i64 ((E i0).frame), .it .i64 ((E i0).bits), .it .i64 ((E i0).host), .it .i64 ((E i0).guest)], .arr (m) (.agg [.bool, .bool, (.int .i64), (.int .i64), (.int .i64), (.int .i64), (.int .i64), (.int .i64), (.int .i64)]) fun i0 => .agg [.bl ((G i0).ok), .bl ((G i0).v), .it .i64 ((G i0).page), .it .i64 ((G i0).asid), .it .i64 ((G i0).vmid), .it .i64 ((G i0).frame), .it .i64 ((G i0).bits), .it .i64 ((G i0).host), .it .i64 ((G i0).guest)]]
theorem same14BE (E : Tab) (G : Tab) (n : Nat) (m : Nat) (b : Bool) (i : Int) : evC Try.prog okT NPC (HH []) RO NOV 101 false (bodyOf Try.f27.body 0) (same14L.F [.sl 0 [] 0 n true, .sl 1 [] 0 m true, .bl b, .it .i64 i, (.arr n entSh fun j => enA (E j)), (.arr m entSh fun j => enA (G j))]) (same14L.M [.sl 0 [] 0 n true, .sl 1 [] 0 m true, .bl b, .it .i64 i, (.arr n entSh fun j => enA (E j)), (.arr m entSh fun j => enA (G j))]) (grabJ 1 (grabQ same14L)) = some (same14BG E G n m b i, same14BV E G n m b i) := by kernel_rfl

/- same14X -/
def same14XG (E : Tab) (G : Tab) (n : Nat) (m : Nat) (b : Bool) (i : Int) : Bool :=
  !iLt i ↑n && true
def same14XV (E : Tab) (G : Tab) (n : Nat) (m : Nat) (b : Bool) (i : Int) : AV := .tup [.it .i64 2, .sl 0 [] (0) (n) true, .sl 1 [] (0) (m) true, .bl b, .it .i64 i, .arr (n) (.agg [.bool, .bool, (.int .i64), (.int .i64), (.int .i64), (.int .i64), (.int .i64), (.int .i64), (.int .i64)]) fun i0 => .agg [.bl ((E i0).ok), .bl ((E i0).v), .it .i64 ((E i0).page), .it .i64 ((E i0).asid), .it .i64 ((E i0).vmid), .it .i64 ((E i0).frame), .it .i64 ((E i0).bits), .it .i64 ((E i0).host), .it .i64 ((E i0).guest)], .arr (m) (.agg [.bool, .bool, (.int .i64), (.int .i64), (.int .i64), (.int .i64), (.int .i64), (.int .i64), (.int .i64)]) fun i0 => .agg [.bl ((G i0).ok), .bl ((G i0).v), .it .i64 ((G i0).page), .it .i64 ((G i0).asid), .it .i64 ((G i0).vmid), .it .i64 ((G i0).frame), .it .i64 ((G i0).bits), .it .i64 ((G i0).host), .it .i64 ((G i0).guest)]]
theorem same14XE (E : Tab) (G : Tab) (n : Nat) (m : Nat) (b : Bool) (i : Int) : evC Try.prog okT NPC (HH []) RO NOV 101 false (bodyOf Try.f27.body 0) (same14L.F [.sl 0 [] 0 n true, .sl 1 [] 0 m true, .bl b, .it .i64 i, (.arr n entSh fun j => enA (E j)), (.arr m entSh fun j => enA (G j))]) (same14L.M [.sl 0 [] 0 n true, .sl 1 [] 0 m true, .bl b, .it .i64 i, (.arr n entSh fun j => enA (E j)), (.arr m entSh fun j => enA (G j))]) (grabJ 2 (grabQ same14L)) = some (same14XG E G n m b i, same14XV E G n m b i) := by kernel_rfl

/- flushV -/
def flushV0r (T : Tab) : Int :=
  bif (allN T).beq 0 then 0 else 0
def flushV1 (T : Tab) : Int :=
  bif (allN T).beq 0 then 0 else ↑(allN T)
def flushV2r (T : Tab) : Nat → Bool :=
  fun i0 => bif (allN T).beq 0 then false else false
def flushV3r (T : Tab) : Nat → Bool :=
  fun i0 => bif (allN T).beq 0 then false else false
def flushV4r (T : Tab) : Nat → Int :=
  fun i0 => bif (allN T).beq 0 then 0 else 0
def flushV5r (T : Tab) : Nat → Int :=
  fun i0 => bif (allN T).beq 0 then 0 else 0
def flushV6r (T : Tab) : Nat → Int :=
  fun i0 => bif (allN T).beq 0 then 0 else 0
def flushV7r (T : Tab) : Nat → Int :=
  fun i0 => bif (allN T).beq 0 then 0 else 0
def flushV8r (T : Tab) : Nat → Int :=
  fun i0 => bif (allN T).beq 0 then 0 else 0
def flushV9r (T : Tab) : Nat → Int :=
  fun i0 => bif (allN T).beq 0 then 0 else 0
def flushV10r (T : Tab) : Nat → Int :=
  fun i0 => bif (allN T).beq 0 then 0 else 0
def flushVG (T : Tab) : Bool :=
  bif (allN T).beq 0 then true else true
def flushVV (T : Tab) : AV := .tup [.it .i64 0, .it .i64 (flushV1 T), .agg [.arr 16 (.agg [.bool, .bool, (.int .i64), (.int .i64), (.int .i64), (.int .i64), (.int .i64), (.int .i64), (.int .i64)]) fun i0 => .agg [.bl false, .bl false, .it .i64 0, .it .i64 0, .it .i64 0, .it .i64 0, .it .i64 0, .it .i64 0, .it .i64 0]]]
def flushVVr (T : Tab) : AV := .tup [.it .i64 (flushV0r T), .it .i64 (flushV1 T), .agg [.arr 16 (.agg [.bool, .bool, (.int .i64), (.int .i64), (.int .i64), (.int .i64), (.int .i64), (.int .i64), (.int .i64)]) fun i0 => .agg [.bl (flushV2r T i0), .bl (flushV3r T i0), .it .i64 (flushV4r T i0), .it .i64 (flushV5r T i0), .it .i64 (flushV6r T i0), .it .i64 (flushV7r T i0), .it .i64 (flushV8r T i0), .it .i64 (flushV9r T i0), .it .i64 (flushV10r T i0)]]]
theorem flushVV_eq (T : Tab) : flushVVr T = flushVV T := by
  unfold flushVVr flushVV flushV0r flushV2r flushV3r flushV4r flushV5r flushV6r flushV7r flushV8r flushV9r flushV10r
  first | (simp only [Go.Ev.cS1, Go.Ev.cS2, Go.Ev.cS3, Go.Ev.cS4, Go.Ev.cS6, Go.Ev.cS7]; done) | (simp only [Go.Ev.cS1, Go.Ev.cS2, Go.Ev.cS3, Go.Ev.cS4, Go.Ev.cS6, Go.Ev.cS7]; kernel_rfl)
theorem flushVE (T : Tab) : evFn Try.prog okT NPC (HH2 MT MT2) RO NOV 101 false Try.f16 [.pt 0 [] tlbSh] (mem1 (tlbA T)) (finQ L1) = some (flushVG T, flushVV T) :=
  (by kernel_rfl : evFn Try.prog okT NPC (HH2 MT MT2) RO NOV 101 false Try.f16 [.pt 0 [] tlbSh] (mem1 (tlbA T)) (finQ L1) = some (flushVG T, flushVVr T)).trans (by rw [flushVV_eq])
theorem flushVT (T : Tab) : flushVG T = true := by
  unfold flushVG
  simp only [Go.Ev.cS1, Go.Ev.cS2, Go.Ev.cS3, Go.Ev.cS4, Go.Ev.cS6, Go.Ev.cS7]

end
end Go.Proofs.Ytcmknfnnapnecaa.PV
