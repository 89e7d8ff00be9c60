/-
  The loops of TlbOne; the law, evaluated.
-/
import Derived.Test.YtcmknfnnapnecaaUs
set_option linter.unusedVariables false
set_option linter.unusedSimpArgs false
set_option maxRecDepth 100000
namespace Go.Proofs.Ytcmknfnnapnecaa.PV
noncomputable section
open Go Go.Ev

def av0 (W : OnW) : Ov := ovT 0 on0L on0Ts (on0Go W)
def onP : Lq := { n := 1, n0 := 2, ts := [0], mv := [], ids := [(0, false), (1, false)] }
def onP1 : Lq := { n := 1, n0 := 1, ts := [0], mv := [], ids := [(0, false)] }
def on2M (n m : Nat) (pg pk : Nat → Int) : Mem := opM [.sli (.int .u8), .sli (.int .u8)] [.sl n fun j => .it .u8 (pg j), .sl m fun j => .it .u8 (pk j)] Mem.empty
def on1M (n : Nat) (pg : Nat → Int) : Mem := opM [.sli (.int .u8), .sli (.int .u8)] [.sl n fun j => .it .u8 (pg j), .no] Mem.empty
def on1M' (n : Nat) (pg : Nat → Int) : Mem := opM [.sli (.int .u8), .sli (.int .u8)] [.no, .sl n fun j => .it .u8 (pg j)] Mem.empty
theorem onLaw2 (Q : Ops) (W : OnW) (n m : Nat) (pg pk : Nat → Int) : evFn Try.prog okT NPC (HH2 (MTs Q) (MTq2 Q)) RW (av0 W) 101 false Try.f3 [.sl 0 [] 0 n false, .sl 1 [] 0 m false] (on2M n m pg pk) (finQ onP) =
    some (Om.pick (!true) (true, .tup [.it .i64 0, .bl false, u8A n pg, u8A m pk]) (Om.pick (bif iLt 100 n then true else iLt m n) (true, .tup [.it .i64 0, .bl true, u8A n pg, u8A m pk]) ((iEq 0 0 && W.all n m pg pk fun _ => noEn) && true, .tup [.it .i64 0, .bl true, u8A n pg, u8A m pk]))) := by kernel_rfl
theorem onLaw1 (Q : Ops) (n : Nat) (pg : Nat → Int) : evFn Try.prog okT NPC (HH2 (MTs Q) (MTq2 Q)) RW (ovT 0 onzL onzTs onzGo) 101 false Try.f3 [.sl 0 [] 0 n false, .nsl] (on1M n pg) (finQ onP1) =
    some (Om.pick (!true) (true, .tup [.it .i64 0, .bl false, u8A n pg]) (Om.pick (bif iLt 100 n then true else iLt 0 n) (true, .tup [.it .i64 0, .bl true, u8A n pg]) ((iEq 0 0 && !iLt 0 n) && true, .tup [.it .i64 0, .bl true, u8A n pg]))) := by kernel_rfl
theorem onLaw1' (Q : Ops) (n : Nat) (pg : Nat → Int) : evFn Try.prog okT NPC (HH2 (MTs Q) (MTq2 Q)) RW NOV 101 false Try.f3 [.nsl, .sl 0 [] 0 n false] (on1M' n pg) (finQ onP1) =
    some (Om.pick (!true) (true, .tup [.it .i64 0, .bl false, u8A n pg]) (Om.pick (bif iLt 100 0 then true else iLt n 0) (true, .tup [.it .i64 0, .bl true, u8A n pg]) ((!iLt 0 0) && true, .tup [.it .i64 0, .bl true, u8A n pg]))) := by kernel_rfl
theorem onLaw0 (Q : Ops) : evFn Try.prog okT NPC (HH2 (MTs Q) (MTq2 Q)) RW NOV 101 false Try.f3 [.nsl, .nsl] Mem.empty (finQ L0) = some (true, .tup [.it .i64 0, .bl true]) := by kernel_rfl
end
end Go.Proofs.Ytcmknfnnapnecaa.PV
