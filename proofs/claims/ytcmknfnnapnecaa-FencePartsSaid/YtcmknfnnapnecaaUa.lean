/-
  Entries, tables of entries; what the program's and the document's look-ups yield, by evaluation.
-/
import Derived.Test.YtcmknfnnapnecaaRows
import Derived.Test.YtcmknfnnapnecaaEwD
set_option linter.unusedVariables false
set_option linter.unusedSimpArgs false
set_option maxRecDepth 100000
namespace Go.Proofs.Ytcmknfnnapnecaa.PV
noncomputable section
open Go Go.Ev
def okT : List TypeId := [27, 70]
theorem fair : Go.Ev.Fair Try.prog okT :=
  ⟨fun t h => by
    simp only [okT, List.contains_cons, List.contains_nil, Bool.or_false, Bool.or_eq_true, beq_iff_eq] at h
    rcases h with rfl | rfl
    · exact Try.stoodInHeld27
    · exact Try.stoodInHeld70
   , fun t h => by
    simp only [okT, List.contains_cons, List.contains_nil, Bool.or_false, Bool.or_eq_true, beq_iff_eq] at h
    rcases h with rfl | rfl
    · exact Try.eqGuardType27
    · exact Try.eqGuardType70
  ⟩
theorem mix : Try.prog.follows .mixedOrders = true := Checked.mixed Try.checked
def RO : FuncId → Bool := fun _ => true
abbrev NOV : Ov := fun _ _ _ _ => none
def NPC : Pcs := fun _ _ => none
theorem NPC_ok : PSound Try.prog NPC := fun _ _ _ _ h => by cases h
def FS : List FuncId := [11, 17, 36]
theorem FS_ok : Names Try.prog FS := names_of (by kernel_rfl)
def ST : FuncId → Bool := fun _ => false
/-- Functions in FS are entered, those in the table by their contracts. -/
noncomputable def HH (tb : List (FuncId × MRow)) : Hd := inlO Try.prog okT NPC RO FS 100 ST (hMem tb) 8
theorem HH_ok {tb : List (FuncId × MRow)} (h : MOk Try.prog tb) : HSound Try.prog (HH tb) := inlO_ok mix fair NPC_ok FS_ok (fun _ hh => hMem_ok hh h) 8

/- Entries. -/
structure En where
  ok : Bool
  v : Bool
  page : Int
  asid : Int
  vmid : Int
  frame : Int
  bits : Int
  host : Int
  guest : Int
def entSh : Sh := .agg [.bool, .bool, .int .i64, .int .i64, .int .i64, .int .i64, .int .i64, .int .i64, .int .i64]
def tlbSh : Sh := .agg [.arr 16 entSh]
noncomputable def enA (e : En) : AV := .agg [.bl e.ok, .bl e.v, .it .i64 e.page, .it .i64 e.asid, .it .i64 e.vmid, .it .i64 e.frame, .it .i64 e.bits, .it .i64 e.host, .it .i64 e.guest]
noncomputable def deA (a : AV) : En := ⟨(a.fld 0).bool, (a.fld 1).bool, (a.fld 2).num, (a.fld 3).num, (a.fld 4).num, (a.fld 5).num, (a.fld 6).num, (a.fld 7).num, (a.fld 8).num⟩
noncomputable def noEn : En := ⟨false, false, 0, 0, 0, 0, 0, 0, 0⟩
abbrev Tab := Nat → En
noncomputable def tlbA (T : Tab) : AV := .agg [.arr 16 entSh fun i => enA (T i)]
noncomputable def deT (a : AV) : Tab := fun i => deA ((a.fld 0).ix i)
theorem norm_en (a : AV) : norm entSh a = enA (deA a) := rfl
theorem norm_tlb (a : AV) : norm tlbSh a = tlbA (deT a) := rfl
noncomputable def keyA (page : Int) (v : Bool) (asid vmid : Int) : AV := .agg [.it .i64 page, .bl v, .it .i64 asid, .it .i64 vmid]

def L1 : Lq := { n := 1, n0 := 1, ts := [0], mv := [], ids := [(0, true)] }

def keySh : Sh := .agg [.int .i64, .bool, .int .i64, .int .i64]
noncomputable def bodyOf (f : Option Code) (B : Nat) : Code := inLoop (blkAt (f.getD .skip) B)
def xs (x : List AV) (l : List Nat) : List AV := l.map fun i => x.getD i .un
end
end Go.Proofs.Ytcmknfnnapnecaa.PV
