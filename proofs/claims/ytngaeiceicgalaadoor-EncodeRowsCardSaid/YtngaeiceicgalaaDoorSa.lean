/-
  What the library's numerals, its builder and Join need of this program; strconv.Itoa, strconv.FormatInt at base 10 as rows of a table.
-/
import Derived.Test.YtngaeiceicgalaaDoorRows
import Derived.Test.YtngaeiceicgalaaDoorEsA
import Derived.Shelf.Strconv.Itoa3
import Derived.Shelf.Strconv.Itoa4
import Derived.Shelf.Strings.OnBuilder
import Derived.Shelf.Strings.BuilderK
import Derived.Test.YtngaeiceicgalaaDoorGb
import Derived.Test.YtngaeiceicgalaaDoorEwF
import Derived.Test.YtngaeiceicgalaaDoorEsB
import Derived.WalkKit
import Derived.BigCall
set_option linter.unusedVariables false
set_option linter.unusedSimpArgs false
set_option maxRecDepth 100000
namespace Go.Proofs.YtngaeiceicgalaaDoor.PV
open Go Go.Shelf
def laysItoa_ren : Go.Shelf.Ren := ⟨fun | 171 => 26 | 243 => 47 | 246 => 48 | 283 => 63 | 284 => 64 | 285 => 65 | 286 => 66 | 129 => 76 | 317 => 75 | 318 => 77 | 319 => 78 | 320 => 79 | 337 => 84 | 338 => 85 | n => n, fun | 3 => 3 | 9 => 9 | 2 => 2 | 4 => 4 | 171 => 118 | 0 => 0 | 53 => 37 | 37 => 65 | 5 => 5 | 173 => 121 | 212 => 134 | 51 => 25 | 20 => 20 | 213 => 135 | 46 => 40 | 232 => 145 | 233 => 146 | n => n, fun | 17 => 0 | 18 => 2 | 19 => 3 | n => n⟩
theorem laysItoa : Go.Proofs.LaysM.n171 Tryd.prog laysItoa_ren := {
  mixed := by kernel_rfl,
  f129 := Tryd.func76.trans (congrArg some (by kernel_rfl)),
  f171 := Tryd.func26.trans (congrArg some (by kernel_rfl)),
  f243 := Tryd.func47.trans (congrArg some (by kernel_rfl)),
  f246 := Tryd.func48.trans (congrArg some (by kernel_rfl)),
  f283 := Tryd.func63.trans (congrArg some (by kernel_rfl)),
  f284 := Tryd.func64.trans (congrArg some (by kernel_rfl)),
  f285 := Tryd.func65.trans (congrArg some (by kernel_rfl)),
  f286 := Tryd.func66.trans (congrArg some (by kernel_rfl)),
  f317 := Tryd.func75.trans (congrArg some (by kernel_rfl)),
  f318 := Tryd.func77.trans (congrArg some (by kernel_rfl)),
  f319 := Tryd.func78.trans (congrArg some (by kernel_rfl)),
  f320 := Tryd.func79.trans (congrArg some (by kernel_rfl)),
  f337 := Tryd.func84.trans (congrArg some (by kernel_rfl)),
  f338 := Tryd.func85.trans (congrArg some (by kernel_rfl)),
  t0 := Tryd.underlying0,
  a0 := Tryd.isAgg0,
  z0 := Tryd.sizeOf0,
  v0 := Tryd.zeroValue0,
  t2 := Tryd.underlying2,
  a2 := Tryd.isAgg2,
  z2 := Tryd.sizeOf2,
  v2 := Tryd.zeroValue2,
  t3 := Tryd.underlying3,
  a3 := Tryd.isAgg3,
  z3 := Tryd.sizeOf3,
  v3 := Tryd.zeroValue3,
  t4 := Tryd.underlying4,
  a4 := Tryd.isAgg4,
  z4 := Tryd.sizeOf4,
  v4 := Tryd.zeroValue4,
  t5 := Tryd.underlying5,
  a5 := Tryd.isAgg5,
  z5 := Tryd.sizeOf5,
  v5 := Tryd.zeroValue5,
  t9 := Tryd.underlying9,
  a9 := Tryd.isAgg9,
  z9 := Tryd.sizeOf9,
  v9 := Tryd.zeroValue9,
  t20 := Tryd.underlying20,
  a20 := Tryd.isAgg20,
  z20 := Tryd.sizeOf20,
  v20 := Tryd.zeroValue20,
  t37 := Tryd.underlying65,
  a37 := Tryd.isAgg65,
  z37 := Tryd.sizeOf65,
  v37 := Tryd.zeroValue65,
  t46 := Tryd.underlying40,
  a46 := Tryd.isAgg40,
  z46 := Tryd.sizeOf40,
  v46 := Tryd.zeroValue40,
  t51 := Tryd.underlying25,
  a51 := Tryd.isAgg25,
  z51 := Tryd.sizeOf25,
  v51 := Tryd.zeroValue25,
  t53 := Tryd.underlying37,
  a53 := Tryd.isAgg37,
  z53 := Tryd.sizeOf37,
  v53 := Tryd.zeroValue37,
  t171 := Tryd.underlying118,
  a171 := Tryd.isAgg118,
  z171 := Tryd.sizeOf118,
  v171 := Tryd.zeroValue118,
  t173 := Tryd.underlying121,
  a173 := Tryd.isAgg121,
  z173 := Tryd.sizeOf121,
  v173 := Tryd.zeroValue121,
  t212 := Tryd.underlying134,
  a212 := Tryd.isAgg134,
  z212 := Tryd.sizeOf134,
  v212 := Tryd.zeroValue134,
  t213 := Tryd.underlying135,
  a213 := Tryd.isAgg135,
  z213 := Tryd.sizeOf135,
  t232 := Tryd.underlying145,
  a232 := Tryd.isAgg145,
  z232 := Tryd.sizeOf145,
  v232 := Tryd.zeroValue145,
  t233 := Tryd.underlying146,
  a233 := Tryd.isAgg146,
  z233 := Tryd.sizeOf146,
  v233 := Tryd.zeroValue146,
  g17 := by kernel_rfl,
  g18 := by kernel_rfl,
  g19 := by kernel_rfl,
  i0 := by kernel_rfl,
  i2 := by kernel_rfl,
  i3 := by kernel_rfl,
  i4 := by kernel_rfl,
  i5 := by kernel_rfl,
  i9 := by kernel_rfl,
  i20 := by kernel_rfl,
  i37 := by kernel_rfl,
  i46 := by kernel_rfl,
  i51 := by kernel_rfl,
  i53 := by kernel_rfl,
  i171 := by kernel_rfl,
  i173 := by kernel_rfl,
  i212 := by kernel_rfl,
  i232 := by kernel_rfl,
  i233 := by kernel_rfl,
  m17 := by kernel_rfl,
  m18 := by kernel_rfl,
  m19 := by kernel_rfl }
def laysFmt_ren : Go.Shelf.Ren := ⟨fun | 173 => 27 | 246 => 48 | 283 => 63 | 284 => 64 | 285 => 65 | 286 => 66 | 129 => 76 | 317 => 75 | 318 => 77 | 319 => 78 | 320 => 79 | 337 => 84 | 338 => 85 | n => n, fun | 2 => 2 | 3 => 3 | 9 => 9 | 4 => 4 | 171 => 118 | 0 => 0 | 53 => 37 | 37 => 65 | 5 => 5 | 173 => 121 | 212 => 134 | 51 => 25 | 20 => 20 | 213 => 135 | 46 => 40 | 232 => 145 | 233 => 146 | n => n, fun | 17 => 0 | 18 => 2 | 19 => 3 | n => n⟩
theorem laysFmt : Go.Proofs.LaysM.n173 Tryd.prog laysFmt_ren := {
  mixed := by kernel_rfl,
  f129 := Tryd.func76.trans (congrArg some (by kernel_rfl)),
  f173 := Tryd.func27.trans (congrArg some (by kernel_rfl)),
  f246 := Tryd.func48.trans (congrArg some (by kernel_rfl)),
  f283 := Tryd.func63.trans (congrArg some (by kernel_rfl)),
  f284 := Tryd.func64.trans (congrArg some (by kernel_rfl)),
  f285 := Tryd.func65.trans (congrArg some (by kernel_rfl)),
  f286 := Tryd.func66.trans (congrArg some (by kernel_rfl)),
  f317 := Tryd.func75.trans (congrArg some (by kernel_rfl)),
  f318 := Tryd.func77.trans (congrArg some (by kernel_rfl)),
  f319 := Tryd.func78.trans (congrArg some (by kernel_rfl)),
  f320 := Tryd.func79.trans (congrArg some (by kernel_rfl)),
  f337 := Tryd.func84.trans (congrArg some (by kernel_rfl)),
  f338 := Tryd.func85.trans (congrArg some (by kernel_rfl)),
  t0 := Tryd.underlying0,
  a0 := Tryd.isAgg0,
  z0 := Tryd.sizeOf0,
  v0 := Tryd.zeroValue0,
  t2 := Tryd.underlying2,
  a2 := Tryd.isAgg2,
  z2 := Tryd.sizeOf2,
  v2 := Tryd.zeroValue2,
  t3 := Tryd.underlying3,
  a3 := Tryd.isAgg3,
  z3 := Tryd.sizeOf3,
  v3 := Tryd.zeroValue3,
  t4 := Tryd.underlying4,
  a4 := Tryd.isAgg4,
  z4 := Tryd.sizeOf4,
  v4 := Tryd.zeroValue4,
  t5 := Tryd.underlying5,
  a5 := Tryd.isAgg5,
  z5 := Tryd.sizeOf5,
  v5 := Tryd.zeroValue5,
  t9 := Tryd.underlying9,
  a9 := Tryd.isAgg9,
  z9 := Tryd.sizeOf9,
  v9 := Tryd.zeroValue9,
  t20 := Tryd.underlying20,
  a20 := Tryd.isAgg20,
  z20 := Tryd.sizeOf20,
  v20 := Tryd.zeroValue20,
  t37 := Tryd.underlying65,
  a37 := Tryd.isAgg65,
  z37 := Tryd.sizeOf65,
  v37 := Tryd.zeroValue65,
  t46 := Tryd.underlying40,
  a46 := Tryd.isAgg40,
  z46 := Tryd.sizeOf40,
  v46 := Tryd.zeroValue40,
  t51 := Tryd.underlying25,
  a51 := Tryd.isAgg25,
  z51 := Tryd.sizeOf25,
  v51 := Tryd.zeroValue25,
  t53 := Tryd.underlying37,
  a53 := Tryd.isAgg37,
  z53 := Tryd.sizeOf37,
  v53 := Tryd.zeroValue37,
  t171 := Tryd.underlying118,
  a171 := Tryd.isAgg118,
  z171 := Tryd.sizeOf118,
  v171 := Tryd.zeroValue118,
  t173 := Tryd.underlying121,
  a173 := Tryd.isAgg121,
  z173 := Tryd.sizeOf121,
  v173 := Tryd.zeroValue121,
  t212 := Tryd.underlying134,
  a212 := Tryd.isAgg134,
  z212 := Tryd.sizeOf134,
  v212 := Tryd.zeroValue134,
  t213 := Tryd.underlying135,
  a213 := Tryd.isAgg135,
  z213 := Tryd.sizeOf135,
  t232 := Tryd.underlying145,
  a232 := Tryd.isAgg145,
  z232 := Tryd.sizeOf145,
  v232 := Tryd.zeroValue145,
  t233 := Tryd.underlying146,
  a233 := Tryd.isAgg146,
  z233 := Tryd.sizeOf146,
  v233 := Tryd.zeroValue146,
  g17 := by kernel_rfl,
  g18 := by kernel_rfl,
  g19 := by kernel_rfl,
  i0 := by kernel_rfl,
  i2 := by kernel_rfl,
  i3 := by kernel_rfl,
  i4 := by kernel_rfl,
  i5 := by kernel_rfl,
  i9 := by kernel_rfl,
  i20 := by kernel_rfl,
  i37 := by kernel_rfl,
  i46 := by kernel_rfl,
  i51 := by kernel_rfl,
  i53 := by kernel_rfl,
  i171 := by kernel_rfl,
  i173 := by kernel_rfl,
  i212 := by kernel_rfl,
  i232 := by kernel_rfl,
  i233 := by kernel_rfl,
  m17 := by kernel_rfl,
  m18 := by kernel_rfl,
  m19 := by kernel_rfl }
def laysJoin_ren : Go.Shelf.Ren := ⟨fun | 156 => 29 | 165 => 50 | 166 => 33 | 169 => 35 | 240 => 51 | 241 => 69 | 276 => 70 | 277 => 82 | n => n, fun | 31 => 57 | 9 => 9 | 3 => 3 | 4 => 4 | 0 => 0 | 20 => 20 | 72 => 67 | 76 => 70 | 70 => 64 | 37 => 65 | 75 => 69 | 127 => 106 | 164 => 125 | 5 => 5 | 80 => 72 | n => n, fun | n => n⟩
theorem laysJoin : Go.Proofs.Lays.n156 Tryd.prog laysJoin_ren := {
  mixed := by kernel_rfl,
  f156 := Tryd.func29.trans (congrArg some (by kernel_rfl)),
  f165 := Tryd.func50.trans (congrArg some (by kernel_rfl)),
  f166 := Tryd.func33.trans (congrArg some (by kernel_rfl)),
  f169 := Tryd.func35.trans (congrArg some (by kernel_rfl)),
  f240 := Tryd.func51.trans (congrArg some (by kernel_rfl)),
  f241 := Tryd.func69.trans (congrArg some (by kernel_rfl)),
  f276 := Tryd.func70.trans (congrArg some (by kernel_rfl)),
  f277 := Tryd.func82.trans (congrArg some (by kernel_rfl)),
  t0 := Tryd.underlying0,
  a0 := Tryd.isAgg0,
  z0 := Tryd.sizeOf0,
  v0 := Tryd.zeroValue0,
  t3 := Tryd.underlying3,
  a3 := Tryd.isAgg3,
  z3 := Tryd.sizeOf3,
  v3 := Tryd.zeroValue3,
  t4 := Tryd.underlying4,
  a4 := Tryd.isAgg4,
  z4 := Tryd.sizeOf4,
  v4 := Tryd.zeroValue4,
  t9 := Tryd.underlying9,
  a9 := Tryd.isAgg9,
  z9 := Tryd.sizeOf9,
  v9 := Tryd.zeroValue9,
  t20 := Tryd.underlying20,
  a20 := Tryd.isAgg20,
  z20 := Tryd.sizeOf20,
  v20 := Tryd.zeroValue20,
  t31 := Tryd.underlying57,
  a31 := Tryd.isAgg57,
  z31 := Tryd.sizeOf57,
  v31 := Tryd.zeroValue57,
  t37 := Tryd.underlying65,
  a37 := Tryd.isAgg65,
  z37 := Tryd.sizeOf65,
  v37 := Tryd.zeroValue65,
  t70 := Tryd.underlying64,
  a70 := Tryd.isAgg64,
  z70 := Tryd.sizeOf64,
  v70 := Tryd.zeroValue64,
  t72 := Tryd.underlying67,
  a72 := Tryd.isAgg67,
  z72 := Tryd.sizeOf67,
  v72 := Tryd.zeroValue67,
  t75 := Tryd.underlying69,
  a75 := Tryd.isAgg69,
  z75 := Tryd.sizeOf69,
  v75 := Tryd.zeroValue69,
  t76 := Tryd.underlying70,
  a76 := Tryd.isAgg70,
  z76 := Tryd.sizeOf70,
  v76 := Tryd.zeroValue70,
  t127 := Tryd.underlying106,
  a127 := Tryd.isAgg106,
  z127 := Tryd.sizeOf106,
  v127 := Tryd.zeroValue106,
  t164 := Tryd.underlying125,
  a164 := Tryd.isAgg125,
  z164 := Tryd.sizeOf125,
  v164 := Tryd.zeroValue125 }

theorem laysWr : Go.Proofs.Lays.n166 Tryd.prog laysJoin_ren := { laysJoin with }
theorem laysStr : Go.Proofs.Lays.n169 Tryd.prog laysJoin_ren := { laysJoin with }
theorem laysExtra : Go.Proofs.Builder.Extra Tryd.prog laysJoin_ren := {
  sizeBuilder := by kernel_rfl,
  liesBuilder := by kernel_rfl,
  t5 := Tryd.underlying5,
  a5 := Tryd.isAgg5,
  z5 := Tryd.sizeOf5,
  v5 := Tryd.zeroValue5,
  infoByte := by kernel_rfl,
  cellsByte := by kernel_rfl,
  sizeByte := by kernel_rfl,
  neB5 := by decide }
open Go.Ev in
theorem itoa_row : RowOk Tryd.prog 26 (rowF [.int .i64] (some fun g => iLe (-9223372036854775807) (g 0).num && iLe (g 0).num 9223372036854775807) fun g => .st (itF (g 0).num)) := rowF_ok fun g hg => by
  rw [Bool.and_eq_true] at hg
  have h0 := iLe_true.1 hg.1
  have h1 := iLe_true.1 hg.2
  refine Gives.of_calls (c := (Tryd.f26.body).getD .skip) ⟨Tryd.func26, of_decide_eq_true (by kernel_rfl)⟩ (by kernel_rfl) fun ρ A m w vals hR ha => ?_
  rw [it_val (show All2 (VR3 ρ) [.it .i64 (g 0).num] vals from ha), itF_eq (by omega) (by omega)]
  refine (Any.strconv_Itoa laysItoa (g 0).num (by omega) (by omega) w (hR.tabIs (g := 0) (List.mem_singleton.2 rfl) (by kernel_rfl))).mono fun e w' ⟨h1, k, os, h2⟩ => ⟨h1, ?_⟩
  subst h2
  refine ⟨?_, fun b hb => ?_, rfl, rfl, rfl⟩
  · show w.heap.size ≤ (w.heap ++ os).size
    rw [Array.size_append]; omega
  · show (w.heap ++ os)[b]? = _
    exact Array.getElem?_append_left hb
open Go.Ev in
theorem fmt_row : RowOk Tryd.prog 27 (rowF [.int .i64, .int .i64] (some fun g => iEq (g 1).num 10 && (iLe (-9223372036854775807) (g 0).num && iLe (g 0).num 9223372036854775807)) fun g => .st (itF (g 0).num)) := rowF_ok fun g hg => by
  rw [Bool.and_eq_true, Bool.and_eq_true] at hg
  have hb := iEq_true.1 hg.1
  have h0 := iLe_true.1 hg.2.1
  have h1 := iLe_true.1 hg.2.2
  refine Gives.of_calls (c := (Tryd.f27.body).getD .skip) ⟨Tryd.func27, of_decide_eq_true (by kernel_rfl)⟩ (by kernel_rfl) fun ρ A m w vals hR ha => ?_
  have hv : vals.toArray = #[.int .i64 (g 0).num, .int .i64 10] := by
    match vals, (show All2 (VR3 ρ) [.it .i64 (g 0).num, .it .i64 (g 1).num] vals from ha) with
    | [v, u], ⟨h, h', _⟩ => rw [(show v = .int .i64 (g 0).num from h.1), (show u = .int .i64 (g 1).num from h'.1), hb]
  rw [hv, itF_eq (by omega) (by omega)]
  refine (Any.strconv_FormatInt_10 laysFmt (g 0).num (by omega) (by omega) w (hR.tabIs (g := 0) (List.mem_singleton.2 rfl) (by kernel_rfl))).mono fun e w' ⟨h1, k, os, h2⟩ => ⟨h1, ?_⟩
  subst h2
  refine ⟨?_, fun b hb => ?_, rfl, rfl, rfl⟩
  · show w.heap.size ≤ (w.heap ++ os).size
    rw [Array.size_append]; omega
  · show (w.heap ++ os)[b]? = _
    exact Array.getElem?_append_left hb
end Go.Proofs.YtngaeiceicgalaaDoor.PV

set_option linter.unusedVariables false
set_option linter.unusedSimpArgs false
set_option maxRecDepth 100000
namespace Go.Proofs.YtngaeiceicgalaaDoor.PV
open Go Go.Ev Go.RowKit
structure In6 where
  op : Int
  rd : Int
  r1 : Int
  r2 : Int
  im : Int
  cs : Int
def inSh : Sh := .agg [.int .i64, .int .i64, .int .i64, .int .i64, .int .i64, .int .i64]
def in6 (i : In6) : AV := .agg [.it .i64 i.op, .it .i64 i.rd, .it .i64 i.r1, .it .i64 i.r2, .it .i64 i.im, .it .i64 i.cs]
def de6 (a : AV) : In6 := ⟨(a.fld 0).num, (a.fld 1).num, (a.fld 2).num, (a.fld 3).num, (a.fld 4).num, (a.fld 5).num⟩
theorem norm6 (a : AV) : norm inSh a = in6 (de6 a) := rfl
def inA (n : Nat) (E : Nat → In6) : AV := .arr n inSh fun j => in6 (E j)
def enW (e : In6) : Int := encode_Encode0 e.op e.rd e.r1 e.r2 e.im e.cs
def enE (e : In6) : Int := encode_Encode1 e.op e.rd e.r1 e.r2 e.im e.cs
def isI (e : In6) : Bool := insn_Is0 e.op e.rd e.r1 e.r2 e.im e.cs
def byB (v s : Int) : UInt8 := UInt8.ofNat (iConv .u8 (iShr .u64 v s)).toNat
def by4 (v : Int) : List UInt8 := [byB v 0, byB v 8, byB v 16, byB v 24]
theorem wb4E (v : Int) : pcOf Tryd.prog okT (lookR T0) NOH RO NOV 100 false Tryd.f34 [.it .u64 v, .it .i64 4] = some (true, .st (by4 v)) := by kernel_rfl
theorem wb4 (v : Int) : Gives Tryd.prog 34 [.it .u64 v, .it .i64 4] (.st (by4 v)) :=
  pcOf_ok mix fair T0_ok HSound_none (f := 34) ⟨Tryd.func34, of_decide_eq_true (by kernel_rfl)⟩ (fun c _ => OvOk_none c) (wb4E v) rfl
theorem enc_gives (e : In6) : Gives Tryd.prog 10 [in6 e] (.tup [.it .u32 (enW e), .it .i64 (enE e)]) := encode_EncodeO [in6 e] none _ rfl (.inl rfl)
/- What Program makes. -/
def prB (E : Nat → In6) : Nat → List UInt8
  | 0 => []
  | k + 1 => prB E k ++ by4 (iConv .u64 (enW (E k)))
theorem prB_len (E : Nat → In6) : ∀ k, (prB E k).length = 4 * k
  | 0 => rfl
  | k + 1 => by unfold prB; rw [List.length_append, prB_len E k]; show 4 * k + 4 = _; omega
theorem isB_later {T e : TypeId} {B b : Nat} {bs : List Value} {w w' : World} (h : Lib.IsBuilderF T e B b bs w) (hw : ∀ k, k < w.heap.size → w'.heap[k]? = w.heap[k]?) : Lib.IsBuilderF T e B b bs w' := by
  have key : ∀ p, Lib.BuilderAtF T e B b p bs w → Lib.BuilderAtF T e B b p bs w' := fun p ⟨h1, v, h2, h3, h4⟩ => by
    refine ⟨h1, v, by rw [hw b (Array.getElem?_eq_some_iff.1 h2).1]; exact h2, ?_, h4⟩
    obtain ⟨g1, g2⟩ := h3
    refine ⟨g1, ?_⟩
    rcases g2 with g2 | ⟨g, cap, cur, fz, q1, q2, q3, q4⟩
    · exact .inl g2
    · exact .inr ⟨g, cap, cur, fz, q1, q2, by rw [hw g (Array.getElem?_eq_some_iff.1 q3).1]; exact q3, q4⟩
  rcases h with h | h
  · exact .inl (key _ h)
  · exact .inr (key _ h)
/-- A slice of instructions lies there. -/
def Lies1 (bk o : Nat) (e : In6) (w : World) : Prop := w.cell? ⟨bk, o, none⟩ = some (.int .i64 e.op) ∧ w.cell? ⟨bk, o + 1, none⟩ = some (.int .i64 e.rd) ∧ w.cell? ⟨bk, o + 2, none⟩ = some (.int .i64 e.r1) ∧ w.cell? ⟨bk, o + 3, none⟩ = some (.int .i64 e.r2) ∧ w.cell? ⟨bk, o + 4, none⟩ = some (.int .i64 e.im) ∧ w.cell? ⟨bk, o + 5, none⟩ = some (.int .i64 e.cs)
def Lies (bk off n : Nat) (E : Nat → In6) (w : World) : Prop := ∀ i, i < n → Lies1 bk (off + i * 6) (E i) w
theorem held_below {w w' : World} (h : Held (fun b => w.heap.size ≤ b) w) (hb : Below w.heap.size w w') : Held (fun b => w'.heap.size ≤ b) w' := fun x hx => by
  obtain ⟨⟨e, fz, h1⟩, h2⟩ := h x hx
  have hlt := (Array.getElem?_eq_some_iff.1 h1).1
  have := hb.size
  exact ⟨⟨e, fz, by rw [hb.block _ hlt]; exact h1⟩, by omega⟩
theorem upd_below {w w' : World} (h : Upd (fun b => w.heap.size ≤ b) w w') : Below w.heap.size w w' := ⟨h.os, h.tape, h.out, h.size, fun k hk => h.old k hk (by omega)⟩
def vI (e : In6) : Value := .agg #[.int .i64 e.op, .int .i64 e.rd, .int .i64 e.r1, .int .i64 e.r2, .int .i64 e.im, .int .i64 e.cs]
theorem vI_ok (ρ : Go.Ev.Ren) (e : In6) : VR3 ρ (in6 e) (vI e) :=
  ⟨⟨trivial, trivial, trivial, trivial, trivial, trivial, trivial⟩, _, rfl, ⟨rfl, fun h => by cases h⟩, ⟨rfl, fun h => by cases h⟩, ⟨rfl, fun h => by cases h⟩, ⟨rfl, fun h => by cases h⟩, ⟨rfl, fun h => by cases h⟩, ⟨rfl, fun h => by cases h⟩, trivial⟩
theorem enc_calls (e : In6) (W : World) (ht : Held (fun b => W.heap.size ≤ b) W) : Calls Tryd.prog 10 #[vI e] W fun x W' => x = .returned (.tuple #[.int .u32 (enW e), .int .i64 (enE e)]) ∧ Below W.heap.size W W' := by
  have := Gives.calls (P := Tryd.prog) (f := 10) (fn := Tryd.f10) (c := (Tryd.f10.body).getD .skip) ⟨Tryd.func10, of_decide_eq_true (by kernel_rfl)⟩ (by kernel_rfl) (enc_gives e) (W := W) (vals := [vI e]) ⟨vI_ok _ e, trivial⟩ ht
  refine this.mono fun x W' ⟨ρ', rv, h1, h2, h3⟩ => ⟨?_, upd_below h2⟩
  obtain ⟨vs, rfl, h4⟩ := h3
  obtain ⟨l⟩ := vs
  match l, h4 with
  | [a, b], ⟨⟨ha, _⟩, ⟨hb, _⟩, _⟩ => rw [h1, ha, hb]
theorem by_calls (v : Int) (hv : 0 ≤ v) (W : World) (ht : Held (fun b => W.heap.size ≤ b) W) : Calls Tryd.prog 34 #[.int .u64 v, .int .i64 4] W fun x W' => x = .returned (.string ⟨(by4 v).toArray⟩) ∧ Below W.heap.size W W' := by
  have := Gives.calls (P := Tryd.prog) (f := 34) (fn := Tryd.f34) (c := (Tryd.f34.body).getD .skip) ⟨Tryd.func34, of_decide_eq_true (by kernel_rfl)⟩ (by kernel_rfl) (wb4 v) (W := W) (vals := [.int .u64 v, .int .i64 4]) ⟨⟨rfl, fun _ => hv⟩, ⟨rfl, fun h => by cases h⟩, trivial⟩ ht
  refine this.mono fun x W' ⟨ρ', rv, h1, h2, h3⟩ => ⟨?_, upd_below h2⟩
  rw [h1, (show rv = .string ⟨(by4 v).toArray⟩ from h3)]
theorem enE_is (e : In6) : enE e = bif isI e then 0 else 40 := by
  unfold enE isI encode_Encode1
  cases insn_Is0 e.op e.rd e.r1 e.r2 e.im e.cs <;> rfl
attribute [irreducible] enW enE isI byB
set_option maxHeartbeats 4000000 in
theorem prog_walk (p : Option Addr) (bk off n c : Nat) (hp : 0 < n → p = some ⟨bk, off, none⟩) (hn : n ≤ 1000000) (E : Nat → In6) (w : World) (ht : Held (fun b => w.heap.size ≤ b) w) (hl : ∀ w', Below w.heap.size w w' → Lies bk off n E w') :
    Calls Tryd.prog 14 #[.slice p n c] w fun e w' => (e = .returned (.tuple #[.string ⟨(prB E n).toArray⟩, .int .i64 0]) ∧ (∀ j, j < n → isI (E j) = true) ∨ e = .returned (.tuple #[.string ⟨[].toArray⟩, .int .i64 40]) ∧ ∃ j, j < n ∧ isI (E j) = false) ∧ Below w.heap.size w w' := by
  go_enter Tryd.func14, Tryd.ntmps14
  go_wp2
  go_loopw [11] (fun i wr => ∃ k : Nat, k ≤ n ∧ i = .int .i64 k ∧ Lib.IsBuilderF 67 5 w.heap.size w.heap.size (Lib.byteCells (prB E k)) wr ∧ Below w.heap.size w wr ∧ ∀ j, j < k → isI (E j) = true) (fun i wr => n - (intOf i).toNat)
  case atStart =>
    exact ⟨0, by omega, rfl, Lib.IsBuilderF.of (Lib.fresh_isBuilder 67 5 w), (Below.refl _ w).alloc (Nat.le_refl _) _, fun j h => by omega⟩
  case round =>
    obtain ⟨k, hk, rfl, hI, hbw, hall⟩ := hrel
    by_cases hkn : k < n
    · obtain rfl := hp (by omega)
      obtain ⟨l0, l1, l2, l3, l4, l5⟩ := hl wr hbw k hkn
      go_wp2_with (go_at_call 10; refine (enc_calls (E k) _ (held_below ht (hbw.alloc hbw.size _))).mono ?_)
      rintro e W1 rfl b1
      have hsz := hbw.size
      have b2 : Below wr.heap.size wr W1 := ((Below.refl wr.heap.size wr).alloc (Nat.le_refl _) _).trans (b1.mono (by omega))
      have b3 : Below w.heap.size w W1 := hbw.trans (b2.mono hsz)
      cases hi : isI (E k)
      · have he : enE (E k) = 40 := by rw [enE_is, hi]; rfl
        rw [he]
        go_wp2
        go_ret2
        exact ⟨.inr ⟨rfl, k, hkn, hi⟩, b3⟩
      · have he : enE (E k) = 0 := by rw [enE_is, hi]; rfl
        rw [he]
        go_wp2_with (go_at_call 34; refine (by_calls (iConv .u64 (enW (E k))) (wrap_nonneg rfl _) _ (held_below ht b3)).mono ?_)
        rintro e W2 ⟨rfl, c1⟩
        have c2 : Below wr.heap.size wr W2 := b2.trans (c1.mono b2.size)
        have hI2 := isB_later hI fun k hk => c2.block k hk
        have hlen : (Lib.byteCells (prB E k)).length + (by4 (iConv .u64 (enW (E k)))).toArray.size ≤ 140737488355328 := by
          rw [Lib.byteCells_length, prB_len]
          have : (by4 (iConv .u64 (enW (E k)))).toArray.size = 4 := rfl
          omega
        go_wp2_with (go_at_call 33; refine (Any.Builder_WriteString_k laysWr laysExtra w.heap.size w.heap.size _ _ _ hI2 hlen (by have := c2.size; omega)).mono ?_)
        rintro e W3 ⟨rfl, d1, d2, _⟩
        replace d1 : Lib.BuilderAtF 67 5 w.heap.size w.heap.size (Value.pointer (some { block := w.heap.size, off := 0 })) (Lib.byteCells (prB E k) ++ Lib.strCells ⟨(by4 (iConv .u64 (enW (E k)))).toArray⟩) W3 := d1
        go_wp2
        go_roundw
        case rel => exact ⟨k + 1, by omega, by congr 1, .inr (by simpa [prB, Lib.byteCells, Lib.strCells] using d1), (hbw.trans (c2.mono hsz)).trans d2, fun j hj => by
          rcases Nat.lt_or_ge j k with h | h
          · exact hall j h
          · rwa [(by omega : j = k)]⟩
        case measure => simp [intOf]; omega
    · have hkn : k = n := by omega
      subst hkn
      go_wp2_with (go_at_call 35; refine (Any.Builder_String_any_k laysStr laysExtra w.heap.size w.heap.size (prB E k) _ hI hbw.size).mono ?_)
      rintro e W1 ⟨rfl, _, b1, _⟩
      go_wp2
      go_ret2
      exact ⟨.inl ⟨rfl, hall⟩, hbw.trans b1⟩
end Go.Proofs.YtngaeiceicgalaaDoor.PV

set_option linter.unusedVariables false
set_option linter.unusedSimpArgs false
set_option maxRecDepth 100000
namespace Go.Proofs.YtngaeiceicgalaaDoor.PV
open Go Go.Ev Go.RowKit
/-- Program's answer to n instructions. -/
def prV (n : Nat) (E : Nat → In6) : AV := .tup [.st (bif allTo (fun j => isI (E j)) n then prB E n else []), .it .i64 (bif allTo (fun j => isI (E j)) n then 0 else 40)]
def progRow : RRow := fun args m => match args with
  | [.nsl] => some (none, prV 0 fun _ => de6 .un)
  | [.sl id path lo len _] => (match slArr m id path with
    | some (_, s, f) => bif s.beq inSh then some (some (iLe len 1000000), prV len fun j => de6 (f (lo + j))) else none
    | none => none)
  | _ => none
theorem prV_ok {n : Nat} {E : Nat → In6} {e : Ending} (ρ : Go.Ev.Ren)
    (h : e = .returned (.tuple #[.string ⟨(prB E n).toArray⟩, .int .i64 0]) ∧ (∀ j, j < n → isI (E j) = true) ∨ e = .returned (.tuple #[.string ⟨[].toArray⟩, .int .i64 40]) ∧ ∃ j, j < n ∧ isI (E j) = false) : ∃ rv, e = .returned rv ∧ VR3 ρ (prV n E) rv := by
  rcases h with ⟨h1, h2⟩ | ⟨h1, j, h2, h3⟩
  · refine ⟨_, h1, _, rfl, ?_⟩
    rw [allTo_all h2]
    exact ⟨rfl, ⟨rfl, fun h => by cases h⟩, trivial⟩
  · refine ⟨_, h1, _, rfl, ?_⟩
    rw [show (allTo (fun j => isI (E j)) n) = false by
      rw [← Bool.not_eq_true]
      intro h; rw [allTo_at h j h2] at h3; cases h3]
    exact ⟨rfl, ⟨rfl, fun h => by cases h⟩, trivial⟩
theorem prog_row : RRowOk Tryd.prog 14 progRow :=
  RRowOk.of_calls (c := (Tryd.f14.body).getD .skip) ⟨Tryd.func14, of_decide_eq_true (by kernel_rfl)⟩ (by kernel_rfl) fun args m c v hF hc ρ A w vals hR ha => by
    have ht : Held (fun b => w.heap.size ≤ b) w := fun x hx => by
      obtain ⟨h1, h2⟩ := hR.tab x hx
      obtain ⟨e, fz, h3⟩ := h1
      exact ⟨⟨e, fz, h3⟩, by have := (Array.getElem?_eq_some_iff.1 h3).1; omega⟩
    unfold progRow at hF
    split at hF <;> try (cases hF; done)
    · cases hF
      match vals, ha with
      | [v], ⟨h, _⟩ =>
        cases (show v = .slice none 0 0 from h)
        exact (prog_walk none 0 0 0 0 (fun h => by omega) (by omega) _ w ht fun w' _ i hi => by omega).mono fun e w' ⟨h1, h2⟩ => ⟨prV_ok ρ h1, h2⟩
    · rename_i id path lo len tip
      split at hF <;> try (cases hF; done)
      rename_i n0 s f hs
      cases hb : s.beq inSh with
      | false => rw [hb] at hF; cases hF
      | true =>
      rw [hb, cond_true] at hF
      cases hF
      cases Sh.beq_eq _ _ hb
      have hle : len ≤ 1000000 := by
        rcases hc with hc | hc
        · cases hc
        · have := iLe_true.1 (Option.some.inj hc); omega
      match vals, ha with
      | [v], ⟨h, _⟩ =>
        obtain ⟨off, c, rfl, _, hlt, hcell⟩ := slArr_ok hR hs (show VR1 ρ (.sl id path lo len tip) v from h)
        refine (prog_walk (some ⟨ρ.bb id, off, none⟩) (ρ.bb id) off len c (fun _ => rfl) hle (fun j => de6 (f (lo + j))) w ht fun w' hw i hi => ?_).mono fun e w' ⟨h1, h2⟩ => ⟨prV_ok ρ h1, h2⟩
        obtain ⟨g1, g2, g3⟩ := hcell i hi
        have hn : f (lo + i) = in6 (de6 (f (lo + i))) := by rw [← norm6]; exact (norm_eq inSh _ g1 g2).symm
        have key : ∀ r (n : Int), (in6 (de6 (f (lo + i)))).flat[r]? = some (.it .i64 n) → w'.cell? ⟨ρ.bb id, off + i * 6 + r, none⟩ = some (.int .i64 n) := fun r n hr => by
          rw [← hn] at hr
          obtain ⟨rv, z1, z2⟩ := g3 r _ hr
          rw [cell?_congr (w := w) (hw.block _ hlt), show off + i * 6 + r = off + i * inSh.size + r from rfl, z1, z2.1]
        exact ⟨key 0 _ rfl, key 1 _ rfl, key 2 _ rfl, key 3 _ rfl, key 4 _ rfl, key 5 _ rfl⟩
/-- strings.Join. -/
def joinRow : RRow := fun args m => match args with
  | [.sl id path lo len _, .st sep] => (match slArr m id path with
    | some (_, s, f) => bif s.beq .str then some (some (iLe len 1000 && iLe (joF (fun j => (f (lo + j)).str) sep len).length 100000000000000), .st (joF (fun j => (f (lo + j)).str) sep len)) else none
    | none => none)
  | _ => none
theorem join_row : RRowOk Tryd.prog 29 joinRow :=
  RRowOk.of_calls (c := (Tryd.f29.body).getD .skip) ⟨Tryd.func29, of_decide_eq_true (by kernel_rfl)⟩ (by kernel_rfl) fun args m c v hF hc ρ A w vals hR ha => by
    unfold joinRow at hF
    split at hF <;> try (cases hF; done)
    rename_i id path lo len tip sep
    split at hF <;> try (cases hF; done)
    rename_i n0 s f hs
    cases hb : s.beq .str with
    | false => rw [hb] at hF; cases hF
    | true =>
    rw [hb, cond_true] at hF
    cases hF
    cases Sh.beq_eq _ _ hb
    have hg : len ≤ 1000 ∧ (joF (fun j => (f (lo + j)).str) sep len).length ≤ 100000000000000 := by
      rcases hc with hc | hc
      · cases hc
      · have := Option.some.inj hc
        rw [Bool.and_eq_true] at this
        have h1 := iLe_true.1 this.1
        have h2 := iLe_true.1 this.2
        omega
    match vals, ha with
    | [v, u], ⟨h, h', _⟩ =>
      obtain ⟨off, c, rfl, hlc, hlt, hcell⟩ := slArr_ok hR hs (show VR1 ρ (.sl id path lo len tip) v from h)
      cases (show u = .string ⟨sep.toArray⟩ from h')
      have hx : (List.map (fun x : ByteArray => x.data.toList) ((List.range len).map fun j => (⟨(f (lo + j)).str.toArray⟩ : ByteArray))) = (List.range len).map fun j => (f (lo + j)).str := by
        rw [List.map_map]; rfl
      have hl : ((List.range len).map fun j => (⟨(f (lo + j)).str.toArray⟩ : ByteArray)).length = len := by rw [List.length_map, List.length_range]
      have := Any.strings_Join laysJoin laysExtra (ρ.bb id) off c ((List.range len).map fun j => ⟨(f (lo + j)).str.toArray⟩) ⟨sep.toArray⟩ w (fun j x hj => by
        obtain ⟨hj1, hj2⟩ := List.getElem?_eq_some_iff.1 hj
        rw [hl] at hj1
        rw [List.getElem_map, List.getElem_range] at hj2
        obtain ⟨g1, g2, g3⟩ := hcell j hj1
        have hn : f (lo + j) = .st (f (lo + j)).str := (norm_eq .str _ g1 g2).symm
        obtain ⟨rv, z1, z2⟩ := g3 0 (.st (f (lo + j)).str) (by rw [hn]; rfl)
        rw [show off + j = off + j * Sh.str.size + 0 by simp [Sh.size], z1, (show rv = .string ⟨(f (lo + j)).str.toArray⟩ from z2), ← hj2]) hlt (by omega) (by omega) (by rw [hx]; have := hg.2; unfold joF at this; simp only [] at this ⊢; omega)
      rw [hl, hx] at this
      exact this.mono fun e w' ⟨h1, h2⟩ => ⟨⟨_, h1, rfl⟩, h2⟩
end Go.Proofs.YtngaeiceicgalaaDoor.PV

