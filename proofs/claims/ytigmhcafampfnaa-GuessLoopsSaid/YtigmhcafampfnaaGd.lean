/-
  The document's Decode: its loop, all rounds: the first operation whose word it is.
-/
import Derived.Test.YtigmhcafampfnaaGc
set_option linter.unusedVariables false
namespace Go.Proofs.Ytigmhcafampfnaa.PV
noncomputable section
open Go Go.Ev

/-- Whether the word is this operation's. -/
def hitB (w op : Int) : Bool :=
  bif rdRound_c0 w false op 0 0 0 0 0 0 then false
  else bif sallyportref3_Encode1 op (sallyportref3_guess1 op w) (sallyportref3_guess2 op w) (sallyportref3_guess3 op w) (sallyportref3_guess4 op w) (sallyportref3_guess5 op w) then
    iEq (sallyportref3_Encode0 op (sallyportref3_guess1 op w) (sallyportref3_guess2 op w) (sallyportref3_guess3 op w) (sallyportref3_guess4 op w) (sallyportref3_guess5 op w)) w else false

/-- The first one, of so many from one on; else the last one. -/
def opFrom (w : Int) : Nat → Int → Int
  | 0, op => op
  | n + 1, op => bif hitB w op then op else opFrom w n (op + 1)
def opOf (w : Int) : Int := opFrom w 69 1

def zeroI : AV := .agg [.it .i64 0, .it .i64 0, .it .i64 0, .it .i64 0, .it .i64 0, .it .i64 0]
def rdSt (w op : Int) : List AV := [.it .u32 w, .bl false, .it .i64 op, zeroI]
def rdHit (w op : Int) : List AV := [.it .u32 w, .bl true, .it .i64 op, .agg [.it .i64 op, .it .i64 (sallyportref3_guess1 op w), .it .i64 (sallyportref3_guess2 op w), .it .i64 (sallyportref3_guess3 op w), .it .i64 (sallyportref3_guess4 op w), .it .i64 (sallyportref3_guess5 op w)]]

def rdNx : List AV → Int × List AV
  | [.it _ w, .bl _, .it _ op, _] => bif iLt op 70 then (bif hitB w op then (1, rdHit w op) else (0, rdSt w (op + 1))) else (2, rdSt w op)
  | _ => (0, [])

theorem rdV (w op : Int) : rdRoundV w false op 0 0 0 0 0 0 = .tup (.it .i64 (rdRound0 w false op 0 0 0 0 0 0) :: match rdRoundV w false op 0 0 0 0 0 0 with | .tup (_ :: r) => r | _ => []) := rfl

theorem rd_round {w op : Int} (h1 : 1 ≤ op) (h2 : op ≤ 70) : Round Try.prog rdBody rdL (rdSt w op) (rdNx (rdSt w op)).1 (rdNx (rdSt w op)).2 := by
  have hE := rdRoundE fun i => (rdSt w op).getD i .un
  have key : ∃ c r, rdRoundV w false op 0 0 0 0 0 0 = .tup (.it .i64 c :: r) ∧ (c, r) = rdNx (rdSt w op) ∧ rdRoundG w false op 0 0 0 0 0 0 = true ∧ plains r = true ∧ AV.wfs r := by
    have ha : op < 70 → iAdd .i64 op 1 = op + 1 := fun h => iAdd_i64 (by omega) (by omega)
    cases h3 : iLt op 70 with
    | false =>
      refine ⟨2, rdSt w op, ?_, ?_, ?_, rfl, by simp [rdSt, zeroI, AV.wfs, AV.wf]⟩
      · simp only [rdRoundV, rdRound0, rdRound2, rdRound3, rdRound4, rdRound5, rdRound6, rdRound7, rdRound8, rdRound9, h3, cond_false, rdSt, zeroI]
      · simp only [rdNx, rdSt, h3, cond_false]
      · simp only [rdRoundG, h3, cond_false]
    | true =>
      have h4 : op < 70 := iLt_true.1 h3
      have hg : sallyportref3_CodeG op = true := rcode_g ⟨h1, h4⟩
      cases hc : rdRound_c0 w false op 0 0 0 0 0 0 with
      | true =>
        have hh : hitB w op = false := by unfold hitB; rw [hc]; rfl
        refine ⟨0, rdSt w (op + 1), ?_, ?_, ?_, rfl, by simp [rdSt, zeroI, AV.wfs, AV.wf]⟩
        · simp only [rdRoundV, rdRound0, rdRound2, rdRound3, rdRound4, rdRound5, rdRound6, rdRound7, rdRound8, rdRound9, h3, hc, cond_true, rdSt, zeroI, ha h4]
        · simp only [rdNx, rdSt, h3, hh, cond_true, cond_false]
        · simp only [rdRoundG, h3, hc, hg, cond_true, Bool.and_true]
      | false =>
        cases hx : (bif sallyportref3_Encode1 op (sallyportref3_guess1 op w) (sallyportref3_guess2 op w) (sallyportref3_guess3 op w) (sallyportref3_guess4 op w) (sallyportref3_guess5 op w) then
            iEq (sallyportref3_Encode0 op (sallyportref3_guess1 op w) (sallyportref3_guess2 op w) (sallyportref3_guess3 op w) (sallyportref3_guess4 op w) (sallyportref3_guess5 op w)) w else false) with
        | false =>
          have hh : hitB w op = false := by unfold hitB; rw [hc, cond_false, hx]
          refine ⟨0, rdSt w (op + 1), ?_, ?_, ?_, rfl, by simp [rdSt, zeroI, AV.wfs, AV.wf]⟩
          · simp only [rdRoundV, rdRound0, rdRound2, rdRound3, rdRound4, rdRound5, rdRound6, rdRound7, rdRound8, rdRound9, h3, hc, hx, cond_true, cond_false, rdSt, zeroI, ha h4]
          · simp only [rdNx, rdSt, h3, hh, cond_true, cond_false]
          · simp only [rdRoundG, h3, hc, hg, hx, cond_true, cond_false, Bool.and_true]
        | true =>
          have hh : hitB w op = true := by unfold hitB; rw [hc, cond_false, hx]
          refine ⟨1, rdHit w op, ?_, ?_, ?_, rfl, by simp [rdHit, AV.wfs, AV.wf]⟩
          · simp only [rdRoundV, rdRound0, rdRound2, rdRound3, rdRound4, rdRound5, rdRound6, rdRound7, rdRound8, rdRound9, h3, hc, hx, cond_true, cond_false, rdHit]
          · simp only [rdNx, rdSt, h3, hh, cond_true, cond_false]
          · simp only [rdRoundG, h3, hc, hg, hx, cond_true, cond_false, Bool.and_true]
  obtain ⟨c, r, k1, k2, k3, k4, k5⟩ := key
  rw [← k2]
  have hE' : roundOf Try.prog okT (lookR T22) (inlO Try.prog okT (lookR T22) RO FS 400 ST (hOnce Try.prog 64 25 21) 8) RO NOV 101 false rdBody rdL (rdSt w op) = some (rdRoundG w false op 0 0 0 0 0 0, .tup (.it .i64 c :: r)) := by
    rw [← k1]
    exact hE
  exact round_ok mix fair T22_ok (inlO_ok mix fair T22_ok FS_ok (fun _ h => hOnce_ok once_ok h) 8) (OvOk_none _) (by kernel_rfl) hE' k3 rfl k4 k5

def rdInv (w : Int) (l : List AV) : Prop := ∃ op, 1 ≤ op ∧ op ≤ 70 ∧ l = rdSt w op

theorem rd_inv {w : Int} (l : List AV) (h : rdInv w l) : Round Try.prog rdBody rdL l (rdNx l).1 (rdNx l).2 ∧ ((rdNx l).1 = 0 → rdInv w (rdNx l).2) := by
  obtain ⟨op, h1, h2, rfl⟩ := h
  refine ⟨rd_round h1 h2, fun h0 => ?_⟩
  simp only [rdNx, rdSt] at h0 ⊢
  cases h3 : iLt op 70 with
  | false => rw [h3] at h0; cases h0
  | true =>
    have h4 : op < 70 := iLt_true.1 h3
    cases hh : hitB w op with
    | true => rw [h3, hh] at h0; cases h0
    | false => exact ⟨op + 1, by omega, by omega, rfl⟩

theorem rd_iter (w : Int) : ∀ (n : Nat) (op : Int), 1 ≤ op → op + n = 70 → iterL rdNx (n + 1) (rdSt w op) = some (bif iLt (opFrom w n op) 70 then (1, rdHit w (opFrom w n op)) else (2, rdSt w 70))
  | 0, op, h1, h2 => by
    have : op = 70 := by omega
    subst this
    rfl
  | n + 1, op, h1, h2 => by
    have h3 : iLt op 70 = true := iLt_true.2 (by omega)
    unfold iterL opFrom
    cases hh : hitB w op with
    | true =>
      have e : rdNx (rdSt w op) = (1, rdHit w op) := by simp only [rdNx, rdSt, h3, hh, cond_true]
      rw [e, cond_true, h3]
      rfl
    | false =>
      have e : rdNx (rdSt w op) = (0, rdSt w (op + 1)) := by simp only [rdNx, rdSt, h3, hh, cond_true, cond_false]
      rw [e, cond_false]
      exact rd_iter w n (op + 1) (by omega) (by omega)

def rdOv : Ov := fun id fr m k => bif Nat.beq id 0 then
    (match getS fr rdL.ts, getM m rdL.ids with
    | some [.it .u32 w, .bl b, .it .i64 op], some [.agg [.it .i64 x0, .it .i64 x1, .it .i64 x2, .it .i64 x3, .it .i64 x4, .it .i64 x5]] =>
      bif Nat.beq fr.n 57 && Nat.beq m.n 1 && ptsAt fr rdL.ps then
        some (bindC (some (!b && (iEq op 1 && (iEq x0 0 && (iEq x1 0 && (iEq x2 0 && (iEq x3 0 && (iEq x4 0 && iEq x5 0))))))))
          (brC (iLt (opOf w) 70) (k .ret (rdL.F (rdHit w (opOf w))) (rdL.M (rdHit w (opOf w)))) (k .normal (rdL.F (rdSt w 70)) (rdL.M (rdSt w 70)))))
      else none
    | _, _ => none) else none

theorem rdBlk : blks rdCode = [(0, .loop rdBody), (1, blkAt rdCode 1)] := by kernel_rfl

theorem rdOv_ok : ∀ c, Try.f13.body = some c → OvOk Try.prog rdOv c := fun c hc => by
  have hc' : c = rdCode := by unfold rdCode; rw [hc]; rfl
  subst hc'
  refine OvOk_blks rdCode fun x hx fr m k r hg he hr => ?_
  rw [rdBlk] at hx
  rcases List.mem_cons.1 hx with rfl | hx
  · unfold rdOv at he
    rw [show Nat.beq (0, Code.loop rdBody).1 0 = true from rfl, cond_true] at he
    split at he <;> try (cases he; done)
    rename_i w b op x0 x1 x2 x3 x4 x5 e1 e2
    cases hb : Nat.beq fr.n 57 && Nat.beq m.n 1 && ptsAt fr rdL.ps with
    | false => rw [hb] at he; cases he
    | true =>
    rw [hb, cond_true] at he
    simp only [Bool.and_eq_true, Nat.beq_eq] at hb
    obtain ⟨q1, q2⟩ := bindC_ok (Option.some.inj he) hr
    have q1 : (!b && (iEq op 1 && (iEq x0 0 && (iEq x1 0 && (iEq x2 0 && (iEq x3 0 && (iEq x4 0 && iEq x5 0))))))) = true := by
      rcases q1 with q1 | q1
      · cases q1
      · exact Option.some.inj q1
    simp only [Bool.and_eq_true, Bool.not_eq_true', iEq_true] at q1
    obtain ⟨rfl, rfl, rfl, rfl, rfl, rfl, rfl, rfl⟩ := q1
    have hit := rd_iter w 69 1 (by decide) (by decide)
    obtain ⟨p1, p2⟩ := brC_ok q2 hr
    have run : ∀ (c : Int) (s : List AV) (e : Exit), iterL rdNx 70 (rdSt w 1) = some (c, s) → exNo e = some c → Runs Try.prog (.block 0 (.loop rdBody)) fr m (exBlock 0 e) (rdL.F s) (rdL.M s) := fun c s e h1 h2 =>
      loop_block (L := rdL) (by kernel_rfl) (nx := rdNx) (inv := rdInv w) rd_inv hb.1.1 hb.1.2 e1 hb.2 e2 rfl (by simp [AV.wfs, AV.wf]) ⟨1, by decide, by decide, rfl⟩ h1 h2
    cases hx : iLt (opOf w) 70 with
    | true =>
      have hx' : iLt (opFrom w 69 1) 70 = true := hx
      rw [hx', cond_true] at hit
      exact ⟨_, _, _, p1 hx, Lp.noGd (L := rdL) rfl, run _ _ .ret hit rfl⟩
    | false =>
      have hx' : iLt (opFrom w 69 1) 70 = false := hx
      rw [hx', cond_false] at hit
      exact ⟨_, _, _, p2 hx, Lp.noGd (L := rdL) rfl, run _ _ (.exit 0) hit rfl⟩
  · rcases List.mem_cons.1 hx with rfl | hx
    · unfold rdOv at he
      rw [show Nat.beq (1, blkAt rdCode 1).1 0 = false from rfl, cond_false] at he
      cases he
    · cases hx
end
end Go.Proofs.Ytigmhcafampfnaa.PV
