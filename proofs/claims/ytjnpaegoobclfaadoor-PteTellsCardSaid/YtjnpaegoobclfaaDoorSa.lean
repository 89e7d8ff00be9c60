/-
  What the library's decimal numerals need of this program; strconv.Itoa as a row of a table.
-/
import Derived.Test.YtjnpaegoobclfaaDoorRows
import Derived.Test.YtjnpaegoobclfaaDoorEsA
import Derived.Shelf.Strconv.Itoa3
set_option linter.unusedVariables false
set_option linter.unusedSimpArgs false
set_option maxRecDepth 100000
namespace Go.Proofs.YtjnpaegoobclfaaDoor.PV
open Go Go.Shelf
def laysItoa_ren : Go.Shelf.Ren := ⟨fun | 171 => 24 | 243 => 28 | 246 => 29 | 283 => 30 | 284 => 31 | 285 => 32 | 286 => 33 | 129 => 35 | 317 => 34 | 318 => 36 | 319 => 37 | 320 => 38 | 337 => 39 | 338 => 40 | n => n, fun | 3 => 3 | 9 => 9 | 2 => 2 | 4 => 4 | 171 => 48 | 0 => 0 | 53 => 22 | 37 => 41 | 5 => 5 | 173 => 50 | 212 => 54 | 51 => 55 | 20 => 20 | 213 => 56 | 46 => 35 | 232 => 59 | 233 => 60 | n => n, fun | 17 => 0 | 18 => 1 | 19 => 2 | n => n⟩
theorem laysItoa : Go.Proofs.LaysM.n171 Tryd.prog laysItoa_ren := {
  mixed := by kernel_rfl,
  f129 := Tryd.func35.trans (congrArg some (by kernel_rfl)),
  f171 := Tryd.func24.trans (congrArg some (by kernel_rfl)),
  f243 := Tryd.func28.trans (congrArg some (by kernel_rfl)),
  f246 := Tryd.func29.trans (congrArg some (by kernel_rfl)),
  f283 := Tryd.func30.trans (congrArg some (by kernel_rfl)),
  f284 := Tryd.func31.trans (congrArg some (by kernel_rfl)),
  f285 := Tryd.func32.trans (congrArg some (by kernel_rfl)),
  f286 := Tryd.func33.trans (congrArg some (by kernel_rfl)),
  f317 := Tryd.func34.trans (congrArg some (by kernel_rfl)),
  f318 := Tryd.func36.trans (congrArg some (by kernel_rfl)),
  f319 := Tryd.func37.trans (congrArg some (by kernel_rfl)),
  f320 := Tryd.func38.trans (congrArg some (by kernel_rfl)),
  f337 := Tryd.func39.trans (congrArg some (by kernel_rfl)),
  f338 := Tryd.func40.trans (congrArg some (by kernel_rfl)),
  t0 := Tryd.underlying0,
  a0 := Tryd.isAgg0,
  z0 := Tryd.sizeOf0,
  v0 := Tryd.zeroValue0,
  t2 := Tryd.underlying2,
  a2 := Tryd.isAgg2,
  z2 := Tryd.sizeOf2,
  v2 := Tryd.zeroValue2,
  t3 := Tryd.underlying3,
  a3 := Tryd.isAgg3,
  z3 := Tryd.sizeOf3,
  v3 := Tryd.zeroValue3,
  t4 := Tryd.underlying4,
  a4 := Tryd.isAgg4,
  z4 := Tryd.sizeOf4,
  v4 := Tryd.zeroValue4,
  t5 := Tryd.underlying5,
  a5 := Tryd.isAgg5,
  z5 := Tryd.sizeOf5,
  v5 := Tryd.zeroValue5,
  t9 := Tryd.underlying9,
  a9 := Tryd.isAgg9,
  z9 := Tryd.sizeOf9,
  v9 := Tryd.zeroValue9,
  t20 := Tryd.underlying20,
  a20 := Tryd.isAgg20,
  z20 := Tryd.sizeOf20,
  v20 := Tryd.zeroValue20,
  t37 := Tryd.underlying41,
  a37 := Tryd.isAgg41,
  z37 := Tryd.sizeOf41,
  v37 := Tryd.zeroValue41,
  t46 := Tryd.underlying35,
  a46 := Tryd.isAgg35,
  z46 := Tryd.sizeOf35,
  v46 := Tryd.zeroValue35,
  t51 := Tryd.underlying55,
  a51 := Tryd.isAgg55,
  z51 := Tryd.sizeOf55,
  v51 := Tryd.zeroValue55,
  t53 := Tryd.underlying22,
  a53 := Tryd.isAgg22,
  z53 := Tryd.sizeOf22,
  v53 := Tryd.zeroValue22,
  t171 := Tryd.underlying48,
  a171 := Tryd.isAgg48,
  z171 := Tryd.sizeOf48,
  v171 := Tryd.zeroValue48,
  t173 := Tryd.underlying50,
  a173 := Tryd.isAgg50,
  z173 := Tryd.sizeOf50,
  v173 := Tryd.zeroValue50,
  t212 := Tryd.underlying54,
  a212 := Tryd.isAgg54,
  z212 := Tryd.sizeOf54,
  v212 := Tryd.zeroValue54,
  t213 := Tryd.underlying56,
  a213 := Tryd.isAgg56,
  z213 := Tryd.sizeOf56,
  t232 := Tryd.underlying59,
  a232 := Tryd.isAgg59,
  z232 := Tryd.sizeOf59,
  v232 := Tryd.zeroValue59,
  t233 := Tryd.underlying60,
  a233 := Tryd.isAgg60,
  z233 := Tryd.sizeOf60,
  v233 := Tryd.zeroValue60,
  g17 := by kernel_rfl,
  g18 := by kernel_rfl,
  g19 := by kernel_rfl,
  i0 := by kernel_rfl,
  i2 := by kernel_rfl,
  i3 := by kernel_rfl,
  i4 := by kernel_rfl,
  i5 := by kernel_rfl,
  i9 := by kernel_rfl,
  i20 := by kernel_rfl,
  i37 := by kernel_rfl,
  i46 := by kernel_rfl,
  i51 := by kernel_rfl,
  i53 := by kernel_rfl,
  i171 := by kernel_rfl,
  i173 := by kernel_rfl,
  i212 := by kernel_rfl,
  i232 := by kernel_rfl,
  i233 := by kernel_rfl,
  m17 := by kernel_rfl,
  m18 := by kernel_rfl,
  m19 := by kernel_rfl }

open Go.Ev in
theorem itoa_row : RowOk Tryd.prog 24 (rowF [.int .i64] (some fun g => iLe (-9223372036854775807) (g 0).num && iLe (g 0).num 9223372036854775807) fun g => .st (itF (g 0).num)) := rowF_ok fun g hg => by
  rw [Bool.and_eq_true] at hg
  have h0 := iLe_true.1 hg.1
  have h1 := iLe_true.1 hg.2
  refine Gives.of_calls (c := (Tryd.f24.body).getD .skip) ⟨Tryd.func24, of_decide_eq_true (by kernel_rfl)⟩ (by kernel_rfl) fun ρ A m w vals hR ha => ?_
  rw [it_val (show All2 (VR3 ρ) [.it .i64 (g 0).num] vals from ha), itF_eq (by omega) (by omega)]
  refine (Any.strconv_Itoa laysItoa (g 0).num (by omega) (by omega) w (hR.tabIs (g := 0) (List.mem_singleton.2 rfl) (by kernel_rfl))).mono fun e w' ⟨h1, k, os, h2⟩ => ⟨h1, ?_⟩
  subst h2
  refine ⟨?_, fun b hb => ?_, rfl, rfl, rfl⟩
  · show w.heap.size ≤ (w.heap ++ os).size
    rw [Array.size_append]; omega
  · show (w.heap ++ os)[b]? = _
    exact Array.getElem?_append_left hb
end Go.Proofs.YtjnpaegoobclfaaDoor.PV
