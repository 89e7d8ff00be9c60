/-
  The evaluator: a region whose order is open. The operations are evaluated in the order of the text, each in the part of the frame and of the memory that it touches;
  where what touches the same thing is ordered, every order comes to the same. Own text; nothing of a program.
-/
import Derived.Test.YtngaeiceicgalaaDoorEvL
namespace Go.Ev

/-- A block that may not be written. -/
def Blk.ro? : Blk → Option Blk
  | .cells t _ => some (.cells t false)
  | .map _ => none

/-- The part of a memory that an operation touches; what it does not write may not be written. -/
def onlyT (m : Mem) (W : List Nat) : List Nat → Tr Blk → Tr Blk
  | [], t => t
  | id :: r, t => onlyT m W r (match m.get id with
    | some b => t.set (bif memN id W then some b else b.ro?) id
    | none => t)
def Mem.only (m : Mem) (fp W : List Nat) : Mem := { n := m.n, t := onlyT m W fp (Tr.mk 12) }

theorem onlyT_get {m : Mem} {W : List Nat} : ∀ (l : List Nat) (t : Tr Blk) (id : Nat) (b : Blk), (onlyT m W l t).get id = some b →
    (id ∈ l ∧ ∃ b0, m.get id = some b0 ∧ (bif memN id W then some b0 else b0.ro?) = some b) ∨ t.get id = some b
  | [], _, _, _, h => .inr h
  | i :: r, t, id, b, h => by
    simp only [onlyT] at h
    rcases onlyT_get r _ id b h with ⟨h1, h2⟩ | h1
    · exact .inl ⟨List.mem_cons_of_mem _ h1, h2⟩
    · split at h1
      · rename_i b0 hb0
        rcases Tr.get_set _ t i id b h1 with ⟨rfl, h3⟩ | ⟨_, h3⟩
        · exact .inl ⟨List.mem_cons_self, b0, hb0, h3⟩
        · exact .inr h3
      · exact .inr h1

theorem ro?_wr {b b' : Blk} (h : b.ro? = some b') : b'.wr = false := by cases b <;> simp [Blk.ro?] at h; subst h; rfl

theorem Mem.only_get {m : Mem} {fp W : List Nat} {id : Nat} {b : Blk} (h : (m.only fp W).get id = some b) :
    id ∈ fp ∧ ∃ b0, m.get id = some b0 ∧ (b = b0 ∨ b0.ro? = some b) ∧ (id ∉ W → b.wr = false) := by
  rcases onlyT_get fp _ id b h with ⟨h1, b0, h2, h3⟩ | h1
  · refine ⟨h1, b0, h2, ?_⟩
    cases hm : memN id W with
    | true => rw [hm] at h3; cases h3; exact ⟨.inl rfl, fun hn => absurd ((memN_iff _ _).1 hm) hn⟩
    | false => rw [hm] at h3; exact ⟨.inr h3, fun _ => ro?_wr h3⟩
  · rw [Tr.get_mk] at h1; cases h1

/-- What an operation has left is laid back. -/
def setAll (src : Mem) : List Nat → Tr Blk → Tr Blk
  | [], t => t
  | id :: r, t => setAll src r (t.set (src.get id) id)
def touched (W : List Nat) (n0 n1 : Nat) : List Nat := W ++ List.range' n0 (n1 - n0)
def Mem.back (m : Mem) (W : List Nat) (m' : Mem) : Mem := { n := m'.n, t := setAll m' (touched W m.n m'.n) m.t }

theorem setAll_get {src : Mem} : ∀ (l : List Nat) (t : Tr Blk) (id : Nat) (b : Blk), (setAll src l t).get id = some b → (id ∈ l ∧ src.get id = some b) ∨ (id ∉ l ∧ t.get id = some b)
  | [], _, _, _, h => .inr ⟨by simp, h⟩
  | i :: r, t, id, b, h => by
    simp only [setAll] at h
    rcases setAll_get r _ id b h with ⟨h1, h2⟩ | ⟨h1, h2⟩
    · exact .inl ⟨List.mem_cons_of_mem _ h1, h2⟩
    · rcases Tr.get_set _ t i id b h2 with ⟨rfl, h3⟩ | ⟨h3, h4⟩
      · exact .inl ⟨List.mem_cons_self, h3⟩
      · exact .inr ⟨by simp [h3, h1], h4⟩

def onlyF (fr : Fr) : List Nat → Tr AV → Tr AV
  | [], t => t
  | i :: r, t => onlyF fr r (t.set (fr.get i) i)
def Fr.only (fr : Fr) (N : List Nat) : Fr := { n := fr.n, t := onlyF fr N (Tr.mk 10) }

theorem onlyF_get {fr : Fr} : ∀ (l : List Nat) (t : Tr AV) (i : Nat) (v : AV), (onlyF fr l t).get i = some v → (i ∈ l ∧ fr.get i = some v) ∨ t.get i = some v
  | [], _, _, _, h => .inr h
  | j :: r, t, i, v, h => by
    simp only [onlyF] at h
    rcases onlyF_get r _ i v h with ⟨h1, h2⟩ | h1
    · exact .inl ⟨List.mem_cons_of_mem _ h1, h2⟩
    · rcases Tr.get_set _ t j i v h1 with ⟨rfl, h3⟩ | ⟨_, h3⟩
      · exact .inl ⟨List.mem_cons_self, h3⟩
      · exact .inr h3

theorem Fr.only_get {fr : Fr} {N : List Nat} {i : Nat} {v : AV} (h : (fr.only N).get i = some v) : i ∈ N ∧ fr.get i = some v := by
  rcases onlyF_get N _ i v h with h1 | h1
  · exact h1
  · rw [Tr.get_mk] at h1; cases h1

/- The temporaries that an operation names. -/
def tmpsOf : List Operand → List Nat
  | [] => []
  | .tmp t :: r => t :: tmpsOf r
  | _ :: r => tmpsOf r
def gtemps (ops : Array Oper) : Nat → Option (Nat × Bool) → List Nat
  | 0, _ => []
  | _ + 1, none => []
  | n + 1, some (j, _) => match ops[j]? with
    | some o => (match o.dst with | some t => [t] | none => []) ++ gtemps ops n o.guard
    | none => []
def namesOf (ops : Array Oper) (o : Oper) : List Nat := tmpsOf o.op.operands.toList ++ gtemps ops 8 o.guard

/- The blocks that an operation touches. -/
def Sh.hasRef : Sh → Bool
  | .ref => true
  | .agg l => Sh.hasRefs l
  | .arr _ s => s.hasRef
  | _ => false
  where
  Sh.hasRefs : List Sh → Bool
    | [] => false
    | s :: r => s.hasRef || Sh.hasRefs r


mutual
def refs : AV → List Nat
  | .pt id _ _ => [id]
  | .sl id _ _ _ _ => [id]
  | .mp id => [id]
  | .fn _ caps => refsL caps
  | .agg l => refsL l
  | .tup l => refsL l
  | .arr n s f => bif s.hasRef then (List.range n).flatMap fun i => refs (f i) else []
  | .gd _ _ v => refs v
  | .un => []
  | .bl _ => []
  | .it _ _ => []
  | .st _ => []
  | .nl => []
  | .nsl => []
  | .nfn => []
  | .nmp => []
  | .nif => []
def refsL : List AV → List Nat
  | [] => []
  | a :: l => refs a ++ refsL l
end

def refsB : Option Blk → List Nat
  | some (.cells t _) => bif t.shape.hasRef then refs t else []
  | some (.map l) => refsP l
  | none => []
  where
  refsP : List (AV × AV) → List Nat
    | [] => []
    | (a, b) :: l => refs a ++ (refs b ++ refsP l)

/-- Those of a list that are not in another one, each once. -/
def newIn : List Nat → List Nat → List Nat
  | [], _ => []
  | i :: r, acc => bif memN i acc then newIn r acc else i :: newIn r (i :: acc)

def reach (m : Mem) : Nat → List Nat → List Nat → List Nat
  | 0, _, acc => acc
  | n + 1, l, acc => match newIn l acc with
    | [] => acc
    | new => reach m n (new.flatMap fun id => refsB (m.get id)) (new ++ acc)

def rawOp (fr : Fr) : Operand → AV
  | .tmp t => match fr.get t with | some v => v | none => .un
  | _ => .un

def rawRefs (fr : Fr) : List Operand → List Nat
  | [] => []
  | x :: r => refs (rawOp fr x) ++ rawRefs fr r

def isWr (m : Mem) (id : Nat) : Bool := match m.get id with | some b => b.wr | none => false

/-- What an operation touches, what of it it writes. 'ro': functions that write nothing. -/
def footOf (ro : FuncId → Bool) (fr : Fr) (m : Mem) (o : Oper) : List Nat × List Nat :=
  match o.op with
  | .store _ x _ => (refs (rawOp fr x), refs (rawOp fr x))
  | .insert _ x _ _ => (refs (rawOp fr x), refs (rawOp fr x))
  | .mapUpdate _ x _ _ => (refs (rawOp fr x), refs (rawOp fr x))
  | .lookup _ x _ _ => (refs (rawOp fr x), refs (rawOp fr x))
  | .call c => match c.callee with
    | .builtin .append => (rawRefs fr c.args.toList, rawRefs fr (c.args.toList.take 1))
    | .builtin .copy => (rawRefs fr c.args.toList, rawRefs fr (c.args.toList.take 1))
    | .builtin _ => (rawRefs fr c.args.toList, [])
    | .value f => match rawOp fr f with
      | .fn g caps => (reach m 6 (refsL caps ++ rawRefs fr c.args.toList) [], bif ro g then [] else (reach m 6 (refsL caps ++ rawRefs fr c.args.toList) []).filter (isWr m))
      | _ => match f with
        | .func g => (reach m 6 (rawRefs fr c.args.toList) [], bif ro g then [] else (reach m 6 (rawRefs fr c.args.toList) []).filter (isWr m))
        | _ => ([], [])
    | _ => ([], [])
  | .load _ x => (refs (rawOp fr x), [])
  | .convert _ _ x => (refs (rawOp fr x), [])
  | .slice _ x _ _ _ => (refs (rawOp fr x), [])
  | .indexAddr _ x _ => match rawOp fr x with
    | .pt _ _ _ => ([], [])
    | v => (refs v, [])
  | .pick _ _ _ => (rawRefs fr o.op.operands.toList, [])
  | _ => ([], [])

/-- What is kept of an operation that has been evaluated. -/
structure Rec where
  dst : Option Nat
  v : AV
  names : List Nat
  fp : List Nat
  W : List Nat
  n0 : Nat
  m' : Mem
  frO : Fr
  mO : Mem

def Rec.touch (r : Rec) (id : Nat) : Bool := memN id r.W || (Nat.ble r.n0 id && Nat.blt id r.m'.n)

def allWr (m' : Mem) : List Nat → Bool
  | [] => true
  | id :: r => (match m'.get id with | some b => b.wr | none => true) && allWr m' r

def evD (P : Program) (ok : List TypeId) (pc : Pcs) (h : Hd) (ro : FuncId → Bool) (ops : Array Oper) : List Oper → List Nat → Fr → Mem → List Rec → (Fr → Mem → List Rec → Option Out) → Option Out
  | [], _, fr, m, rs, k => k fr m rs
  | o :: l, S, fr, m, rs, k =>
    bif chk true ops S o then
      evStep P ok pc h ops o (fr.only (namesOf ops o)) (m.only (footOf ro fr m o).1 (footOf ro fr m o).2) fun v m' =>
        bif Nat.ble m.n m'.n && allWr m' (touched (footOf ro fr m o).2 m.n m'.n) then
          evD P ok pc h ro ops l (addD o.dst S) (fr.put o.dst v) (m.back (footOf ro fr m o).2 m')
            (rs ++ [{ dst := o.dst, v, names := namesOf ops o, fp := (footOf ro fr m o).1, W := (footOf ro fr m o).2, n0 := m.n, m', frO := fr.only (namesOf ops o), mO := m.only (footOf ro fr m o).1 (footOf ro fr m o).2 }]) k
        else none
    else none

/- Which operations come before which, whatever the order. -/
def maskOf (acc : List Nat) : List Edge → Nat → Nat
  | [], s => s
  | e :: r, s => maskOf acc r (bif Region.binds .any e then s ||| 2 ^ e.on ||| acc.getD e.on 0 else s)
def masks : List Oper → List Nat → List Nat
  | [], acc => acc
  | o :: r, acc => masks r (acc ++ [maskOf acc o.after.toList 0])

/-- All edges that bind lead back. -/
def backs : List Oper → Nat → Bool
  | [], _ => true
  | o :: r, i => o.after.toList.all (fun e => !Region.binds .any e || Nat.blt e.on i) && backs r (i + 1)

def dstIn (d : Option Nat) (l : List Nat) : Bool := match d with | some d => memN d l | none => false

/-- Temporaries: who names what another one writes is ordered with it. -/
def tmpOk (ops : Array Oper) : Bool :=
  let ms := masks ops.toList []
  ops.toList.zipIdx.all fun (o, i) => ops.toList.zipIdx.all fun (p, j) =>
    !Nat.blt i j || !(dstIn o.dst (namesOf ops p) || dstIn p.dst (namesOf ops o)) || (ms.getD j 0).testBit i

def loud (r : Rec) : Bool := !r.fp.isEmpty || !r.W.isEmpty || Nat.blt r.n0 r.m'.n
def newIds (r : Rec) : List Nat := touched r.W r.n0 r.m'.n

/-- Blocks: who touches what another one writes or makes is ordered with it. -/
def memOk (ops : Array Oper) (rs : List Rec) : Bool :=
  let ms := masks ops.toList []
  let ls := rs.zipIdx.filter fun x => loud x.1
  ls.all fun (r, i) => ls.all fun (q, j) =>
    !Nat.blt i j || !((newIds r).any (fun id => memN id q.fp || q.touch id) || (newIds q).any fun id => memN id r.fp) || (ms.getD j 0).testBit i

def evDraw (P : Program) (ok : List TypeId) (pc : Pcs) (h : Hd) (ro : FuncId → Bool) (ops : Array Oper) (fr : Fr) (m : Mem) (k : Fr → Mem → Option Out) : Option Out :=
  bif backs ops.toList 0 && tmpOk ops then
    evD P ok pc h ro ops ops.toList [] fr m [] fun fr m rs => bif memOk ops rs then k (clearG ops.toList fr) m else none
  else none

end Go.Ev
