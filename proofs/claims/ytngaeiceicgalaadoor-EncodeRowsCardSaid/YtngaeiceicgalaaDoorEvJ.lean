/-
  The evaluator's operations that make or write memory (fourth part): append, copy, []byte(s). Own text; nothing of a program.
-/
import Derived.Test.YtngaeiceicgalaaDoorEvI
namespace Go.Ev
section
variable {P : Program} {ρ : Ren}

/-- No number's type: 'append(s, make(..)...)' is another form. -/
def noNumber (P : Program) (u : TypeId) : Bool := match P.underlying u with | some (.slice _) => true | some .string => true | _ => false

theorem run_append_in {w w' : World} {t u ty e : TypeId} {i : TypeInfo} (ht : P.underlying t = some (.slice e)) (hu : noNumber P u = true) (hi : P.info? e = some i)
    (a : Addr) (sLen sCap : Nat) (x : Value) (n : Nat) (news : Array Value) (hn : (Builtin.lenOf x).run P w = .ok n w) (hf : (Builtin.firstCells i.size n x).run P w = .ok news w)
    (hroom : sLen + n ≤ sCap) (hst : (storeCells (a.add (sLen * i.size)) news.toList).run P w = .ok () w') :
    (Builtin.append_ #[t, u] ty #[.slice (some a) sLen sCap, x]).run P w = .ok (.slice (some a) (sLen + n) sCap) w' := by
  unfold noNumber at hu
  split at hu <;> try (cases hu; done)
  all_goals
    rename_i hu'
    simp [Builtin.append_, run_underlying ht, run_underlying hu', sizeOf, typeInfo, hi, hn, hroom, hf, hst]

theorem run_append_new {w : World} {t u ty e : TypeId} {i : TypeInfo} {z : Value} (ht : P.underlying t = some (.slice e)) (hu : noNumber P u = true) (hi : P.info? e = some i) (hz : i.zero = some z)
    (b : Option Addr) (sLen sCap : Nat) (x : Value) (n : Nat) (olds news : Array Value) (hn : (Builtin.lenOf x).run P w = .ok n w)
    (ho : (Builtin.firstCells i.size sLen (.slice b sLen sCap)).run P w.drew = .ok olds w.drew) (hf : (Builtin.firstCells i.size n x).run P w.drew = .ok news w.drew)
    (hroom : sCap < sLen + n) (h63 : sLen + n ≤ 9223372036854775807) (hfit : Builtin.nextslicecap (sLen + n) sCap * i.bytes ≤ 281474976710656) :
    (Builtin.append_ #[t, u] ty #[.slice b sLen sCap, x]).run P w =
      .ok (.slice (some ⟨w.heap.size, 0, none⟩) (sLen + n) (grownCap w (sLen + n) sCap e))
        (w.drew.alloc (.cells (olds ++ news ++ Builtin.zeroCells z.cells (grownCap w (sLen + n) sCap e - (sLen + n))) e)) := by
  have hn' : ¬ (sLen + n ≤ sCap) := by omega
  have h63' : ¬ (9223372036854775807 < ((sLen : Int) + (n : Int))) := by omega
  have hfit' : ¬ (281474976710656 < Builtin.nextslicecap (sLen + n) sCap * i.bytes) := by omega
  unfold noNumber at hu
  split at hu <;> try (cases hu; done)
  all_goals
    rename_i hu'
    simp [Builtin.append_, run_underlying ht, run_underlying hu', sizeOf, typeInfo, zeroValue, hi, hz, hn, hn', h63', hfit', ho, hf, Question.forced, newRow, grownCap]

/-- What is handed on: how many elements, their shape, each. -/
def evSource (m : Mem) (x : AV) : Option (Nat × Sh × (Nat → AV)) :=
  match x with
  | .sl id path lo len _ => match m.get id with
    | some (.cells tr _) => match AV.get path tr with
      | some (.arr _ s f) => some (len, s, fun j => f (j + lo))
      | _ => none
    | _ => none
  | .st l => some (l.length, .int .u8, fun j => .it .u8 (l.getD j 0).toNat)
  | _ => none

def rowFlat (g : Nat → AV) (n : Nat) : List AV := (List.range n).flatMap fun j => (g j).flat

/-- The cells of a slice's elements. -/
theorem slice_cells {A : Nat → Prop} {w : World} {m : Mem} (hR : Rep ρ A m w) {id : Nat} {tr : AV} {wr : Bool} {path : List PE} {n : Nat} {s : Sh} {f : Nat → AV} {lo len o off c k : Nat}
    (hid : m.get id = some (.cells tr wr)) (hg : AV.get path tr = some (.arr n s f)) (hp : PathTo (ρ.sh id) path (.arr n s) o) (hn : lo + len ≤ n) (hc : len ≤ c)
    (hoff : 0 < c → off = ρ.bo id + o + lo * s.size) (hk : k ≤ len) :
    (∀ j, (f j).wf ∧ (f j).shape = s) ∧ ∀ (r : Nat) (a : AV), (rowFlat (fun j => f (j + lo)) k)[r]? = some a → ∃ rv, w.cell? ⟨ρ.bb id, off + r, none⟩ = some rv ∧ VR1 ρ a rv := by
  obtain ⟨b1, b2, b3, b4, b5, b6⟩ := hR.blk id _ hid
  rw [b2] at hp
  obtain ⟨c', hg', hcw, hcs, hcf⟩ := AV.get_ok b3 hp
  rw [hg] at hg'; cases hg'
  refine ⟨fun j => hcw j, fun r a ha => ?_⟩
  have hlen : (rowFlat (fun j => f (j + lo)) k).length = k * s.size := flatMap_len k s.size _ fun i _ => by rw [AV.flat_len _ (hcw _).1, (hcw _).2]
  have hr : r < k * s.size := by rw [← hlen]; exact (List.getElem?_eq_some_iff.1 ha).1
  have hz : 0 < s.size := by
    rcases Nat.eq_zero_or_pos s.size with h0 | h0
    · rw [h0] at hr; simp at hr
    · exact h0
  have hdm := Nat.div_add_mod r s.size
  have hq : r % s.size < s.size := Nat.mod_lt _ hz
  have hj : r / s.size < k := Nat.div_lt_of_lt_mul (by rw [Nat.mul_comm]; exact hr)
  have hk0 : 0 < k := Nat.lt_of_le_of_lt (Nat.zero_le _) hj
  have hoff' := hoff (by omega)
  generalize r / s.size = j at *
  generalize r % s.size = q at *
  rw [Nat.mul_comm] at hdm
  subst hdm
  have e1 := flatMap_at k s.size (fun j => (f (j + lo)).flat) (fun i _ => by rw [AV.flat_len _ (hcw _).1, (hcw _).2]) j q hj hq
  have e2 := flatMap_at n s.size (fun i => (f i).flat) (fun i _ => by rw [AV.flat_len _ (hcw _).1, (hcw _).2]) (j + lo) q (by omega) hq
  have e3 := hcf ((j + lo) * s.size + q) (by
    simp only [Sh.size]
    have : (j + lo + 1) * s.size ≤ n * s.size := Nat.mul_le_mul_right _ (by omega)
    rw [Nat.add_mul (j + lo)] at this; omega)
  simp only [rowFlat] at ha
  simp only [AV.flat] at e3
  rw [e1, ← e2, e3] at ha
  obtain ⟨rv, k1, k2⟩ := b5 _ _ ha
  refine ⟨rv, ?_, k2⟩
  rw [← k1, hoff']
  congr 2
  rw [Nat.add_mul]; omega

/-- The cells that a source hands on. -/
theorem evSource_ok {A : Nat → Prop} {w : World} {m : Mem} (hR : Rep ρ A m w) {x : AV} {v : Value} {n : Nat} {s : Sh} {g : Nat → AV} (h : evSource m x = some (n, s, g)) (hx : VR3 ρ x v) :
    (∀ j, (g j).wf ∧ (g j).shape = s) ∧ (∀ w' : World, (Builtin.lenOf v).run P w' = .ok n w') ∧
    ∀ k, k ≤ n → ∃ cs : Array Value, All2 (VR1 ρ) (rowFlat g k) cs.toList ∧ ∀ w' : World, w'.heap = w.heap → (Builtin.firstCells s.size k v).run P w' = .ok cs w' := by
  unfold evSource at h
  split at h <;> try (cases h; done)
  · rename_i id path lo len tip
    split at h <;> try (cases h; done)
    rename_i tr wr hid
    split at h <;> try (cases h; done)
    rename_i n' s' f hg
    simp only [Option.some.injEq, Prod.mk.injEq] at h
    obtain ⟨rfl, rfl, rfl⟩ := h
    obtain ⟨h1, n2, s2, o, off, c, hp, hn, hc, rfl, hoff, _⟩ := hx
    obtain ⟨b1, b2, b3, b4, b5, b6⟩ := hR.blk id _ hid
    have hp' := hp
    rw [b2] at hp'
    obtain ⟨c', hg', hcw, hcs, hcf⟩ := AV.get_ok b3 hp'
    rw [hg] at hg'; cases hg'
    cases hcs
    refine ⟨fun j => hcw _, fun w' => rfl, fun k hk => ?_⟩
    obtain ⟨_, hcells⟩ := slice_cells hR hid hg hp hn hc hoff hk
    have hlen : (rowFlat (fun j => f (j + lo)) k).length = k * s'.size := flatMap_len k s'.size _ fun i _ => by rw [AV.flat_len _ (hcw _).1, (hcw _).2]
    obtain ⟨cs, q1, q2⟩ := exists_row (R := VR1 ρ) (Q := fun r v => w.cell? ⟨ρ.bb id, off + r, none⟩ = some v) (rowFlat (fun j => f (j + lo)) k) hcells
    refine ⟨cs.toArray, by simpa using q1, fun w' hw' => ?_⟩
    refine run_firstCells_some (P := P) w' s'.size k _ _ _ cs (by rw [← q1.len, hlen]) fun j v hv => ?_
    rw [Addr.add_off]
    have := q2 j v hv
    simp only [World.cell?] at this ⊢
    rw [hw']; exact this
  · rename_i l
    simp only [Option.some.injEq, Prod.mk.injEq] at h
    obtain ⟨rfl, rfl, rfl⟩ := h
    cases hx
    refine ⟨fun j => ⟨trivial, rfl⟩, fun w' => by simp [Builtin.lenOf, ByteArray.size], fun k hk => ?_⟩
    refine ⟨((l.take k).map fun b => Value.int .u8 b.toNat).toArray, ?_, fun w' _ => ?_⟩
    · have hfl : (rowFlat (fun j => AV.it .u8 (l.getD j 0).toNat) k).length = k * 1 := flatMap_len k 1 _ fun i _ => rfl
      refine All2.of_get (by rw [hfl]; simp; omega) fun r a ha => ?_
      have hr : r < k := by have := (List.getElem?_eq_some_iff.1 ha).1; omega
      have e1 := flatMap_at k 1 (fun j => (AV.it .u8 (l.getD j 0).toNat).flat) (fun i _ => rfl) r 0 hr (by omega)
      simp only [Nat.mul_one, Nat.add_zero] at e1
      simp only [rowFlat] at ha
      rw [e1] at ha
      simp only [AV.flat, List.getElem?_cons_zero, Option.some.injEq] at ha
      subst ha
      have hrl : r < l.length := by omega
      refine ⟨.int .u8 (l[r].toNat), ?_, ?_⟩
      · simp [List.getElem?_take_of_lt hr, List.getElem?_eq_getElem hrl]
      · refine ⟨?_, fun _ => by simp⟩
        simp [List.getD, List.getElem?_eq_getElem hrl]
    · simp [Builtin.firstCells, ByteArray.data_extract]


mutual
theorem sel_self (c : Bool) : ∀ (x : AV), sel c x x = x
  | .it _ _ => by cases c <;> rfl
  | .bl _ => by cases c <;> rfl
  | .st _ => by cases c <;> rfl
  | .agg l => by simp only [sel, sels_self c l]
  | .arr n s f => by simp only [sel]; congr 1; funext i; exact sel_self c (f i)
  | .un => by cases c <;> rfl
  | .nl => by cases c <;> rfl
  | .pt _ _ _ => by cases c <;> rfl
  | .nsl => by cases c <;> rfl
  | .sl _ _ _ _ _ => by cases c <;> rfl
  | .nfn => by cases c <;> rfl
  | .fn _ _ => by cases c <;> rfl
  | .nmp => by cases c <;> rfl
  | .mp _ => by cases c <;> rfl
  | .nif => by cases c <;> rfl
  | .tup _ => by cases c <;> rfl
  | .gd _ _ _ => by cases c <;> rfl
theorem sels_self (c : Bool) : ∀ (l : List AV), sels c l l = l
  | [] => rfl
  | a :: l => by simp only [sels, sel_self c a, sels_self c l]
end

theorem rowFlat_add (h : Nat → AV) (a b : Nat) : rowFlat h (a + b) = rowFlat h a ++ rowFlat (fun j => h (a + j)) b := by
  induction b with
  | zero => simp [rowFlat]
  | succ b ih =>
    have e : ∀ (g : Nat → AV) (n : Nat), rowFlat g (n + 1) = rowFlat g n ++ (g n).flat := fun g n => by simp [rowFlat, List.range_succ]
    rw [← Nat.add_assoc, e, ih, e, List.append_assoc]

/-- Two rows, one behind the other. -/
def joined (len : Nat) (f g : Nat → AV) : Nat → AV := fun j => sel (decide (j < len)) (f j) (g (j - len))

theorem joined_ok {len n : Nat} {s : Sh} {f g : Nat → AV} (hf : ∀ j, (f j).wf ∧ (f j).shape = s) (hg : ∀ j, (g j).wf ∧ (g j).shape = s) :
    (∀ j, (joined len f g j).wf ∧ (joined len f g j).shape = s) ∧ (AV.arr (len + n) s (joined len f g)).flat = rowFlat f len ++ rowFlat g n := by
  have key : ∀ j, (joined len f g j).wf ∧ (joined len f g j).shape = s ∧ (joined len f g j).flat = bif decide (j < len) then (f j).flat else (g (j - len)).flat := fun j => by
    obtain ⟨h1, h2, h3⟩ := sel_ok (decide (j < len)) (f j) (g (j - len)) (hf j).1 (hg _).1 ((hf j).2.trans (hg _).2.symm)
    exact ⟨h1, h2.trans (hf j).2, h3⟩
  refine ⟨fun j => ⟨(key j).1, (key j).2.1⟩, ?_⟩
  show rowFlat (joined len f g) (len + n) = _
  rw [rowFlat_add]
  congr 1
  · refine flatMap_same len _ _ fun i hi => ?_
    rw [(key i).2.2]; simp [hi]
  · refine flatMap_same n _ _ fun i _ => ?_
    rw [(key (len + i)).2.2, show decide (len + i < len) = false by simp]; simp

def evAppend (P : Program) (m : Mem) (ts : Array TypeId) (args : List AV) : Option (Option Bool × AV × Mem) :=
  match args, ts.toList with
  | [d, x], [t, u] => match P.underlying t with
    | some (.slice e) => match evZero P e with
      | some z =>
        if noNumber P u = true ∧ z.shape.size = P.cellsOf e ∧ 0 < z.shape.size ∧ P.bytesOf e ≤ 1024 then
          match d, x with
          | .nsl, .nsl => some (none, .nsl, m)
          | .sl id path lo len tip, .nsl => some (none, .sl id path lo len tip, m)
          | .nsl, x => match evSource m x with
            | some (n, s, g) => bif s.beq z.shape then some (some (Nat.ble 1 n && Nat.ble n 4294967296), .sl m.n [] 0 n true, m.add (.cells (.arr n s g) true)) else none
            | none => none
          | .sl id [] lo len true, x => match m.get id, evSource m x with
            | some (.cells (.arr _ s f) true), some (n, s', g) =>
              bif s.beq z.shape && s'.beq s then
                some (some (Nat.ble (len + n) 4294967296), .sl m.n [] 0 (len + n) true, (m.del id).add (.cells (.arr (len + n) s (joined len (fun j => f (j + lo)) g)) true))
              else none
            | _, _ => none
          | _, _ => none
        else none
      | none => none
    | _ => none
  | _, _ => none

theorem Rep.drew {A : Nat → Prop} {w : World} {m : Mem} (hR : Rep ρ A m w) : Rep ρ A m w.drew := hR.later (Nat.le_refl _) fun _ _ => rfl
theorem Upd.drew {A : Nat → Prop} {w : World} : Upd A w w.drew := ⟨Nat.le_refl _, fun _ _ _ => rfl, rfl, rfl, rfl⟩

/-- A slice that has grown into a new row. -/
theorem did_grow {A : Nat → Prop} {w : World} {m : Mem} (hR : Rep ρ A m w) {t u ty e : TypeId} {i : TypeInfo} {zv : Value} (ht : P.underlying t = some (.slice e)) (hu : noNumber P u = true)
    (hi : P.info? e = some i) (hz : i.zero = some zv) (hb : i.bytes ≤ 1024) (b : Option Addr) (sLen sCap : Nat) (x : Value) (n : Nat) {s : Sh} (hs : s.size = i.size) (hzs : zv.cells.size = i.size) {f g : Nat → AV}
    (hf : ∀ j, (f j).wf ∧ (f j).shape = s) (hg : ∀ j, (g j).wf ∧ (g j).shape = s) (olds news : Array Value)
    (ho : All2 (VR1 ρ) (rowFlat f sLen) olds.toList) (hnw : All2 (VR1 ρ) (rowFlat g n) news.toList)
    (hn : (Builtin.lenOf x).run P w = .ok n w)
    (hof : (Builtin.firstCells i.size sLen (.slice b sLen sCap)).run P w.drew = .ok olds w.drew) (hnf : (Builtin.firstCells i.size n x).run P w.drew = .ok news w.drew)
    (hroom : sCap < sLen + n) (hsmall : sLen + n ≤ 4294967296) :
    Did P ρ A w (Builtin.append_ #[t, u] ty #[.slice b sLen sCap, x]) (.sl m.n [] 0 (sLen + n) true) (m.add (.cells (.arr (sLen + n) s (joined sLen f g)) true)) := by
  have hbb : (sLen + n) * i.bytes ≤ 4294967296 * 1024 := Nat.mul_le_mul hsmall hb
  have hrun := run_append_new (P := P) (w := w) (ty := ty) ht hu hi hz b sLen sCap x n olds news hn hof hnf hroom (by omega) (growslice_fits hroom (by omega))
  have hj := joined_ok (len := sLen) (n := n) hf hg
  have hall := All2.append ho hnw
  rw [← hj.2] at hall
  have hlen : (AV.arr (sLen + n) s (joined sLen f g)).flat.length = (sLen + n) * s.size := flatMap_len _ _ _ fun k _ => by rw [AV.flat_len _ (hj.1 k).1, (hj.1 k).2]
  have hsz : (olds ++ news).size = (sLen + n) * s.size := by rw [← hlen, hall.len]; simp
  have hcap := grownCap_ge w (sLen + n) sCap e
  obtain ⟨k1, k2⟩ := (hR.drew).allocRoom (e := e) (a := .arr (sLen + n) s (joined sLen f g)) (cs := olds ++ news ++ Builtin.zeroCells zv.cells (grownCap w (sLen + n) sCap e - (sLen + n))) hj.1 (fun r v hv => by
    obtain ⟨rv, q1, q2⟩ := hall.get hv
    rw [← Array.toList_append, Array.getElem?_toList] at q1
    have hlt : r < (olds ++ news).size := by
      rw [hsz, ← hlen]; exact (List.getElem?_eq_some_iff.1 hv).1
    exact ⟨rv, by rw [Array.getElem?_append_left hlt]; exact q1, q2⟩) (by
    rw [Array.size_append, hsz]; simp [AV.shape, Sh.size])
  refine ⟨_, _, _, hrun, Ren.ext_add hR.lt _ _ _ _, k1, (Upd.drew).trans k2, ?_⟩
  rw [← hR.n]
  refine VR3_newSlice _ _ _ _ _ hcap ?_
  rw [Array.size_append, hsz, size_zeroCells, hzs, hs, ← Nat.add_mul]
  refine Nat.le_of_eq ?_
  congr 1; omega


theorem Rep.sepBlock {A : Nat → Prop} {w : World} {m : Mem} (hR : Rep ρ A m w) {id : Nat} {tr : AV} (hid : m.get id = some (.cells tr true)) {j : Nat} {b : Blk} (hj : (m.del id).get j = some b) :
    ρ.bb j ≠ ρ.bb id ∧ m.get j = some b := by
  rcases Tr.get_set none m.t id j b hj with ⟨_, h1⟩ | ⟨h1, h2⟩
  · cases h1
  · exact ⟨(hR.sep id j _ _ hid h2 (fun he => h1 he.symm) rfl).symm, h2⟩

/-- A slice that has grown where it lies. -/
theorem did_growIn {A : Nat → Prop} {w : World} {m : Mem} (hR : Rep ρ A m w) {t u ty e : TypeId} {i : TypeInfo} (ht : P.underlying t = some (.slice e)) (hu : noNumber P u = true)
    (hi : P.info? e = some i) {id lo len n0 off c : Nat} {f : Nat → AV} {s : Sh} (hid : m.get id = some (.cells (.arr n0 s f) true)) (hs : s.size = i.size)
    (hn0 : lo + len = n0) (hlc : len ≤ c) (hoff : 0 < c → off = ρ.bo id + 0 + lo * s.size) (hrm : 0 < c → (lo + c) * s.size ≤ ρ.room id)
    (x : Value) (n : Nat) {g : Nat → AV} (hg : ∀ j, (g j).wf ∧ (g j).shape = s) (news : Array Value) (hnw : All2 (VR1 ρ) (rowFlat g n) news.toList)
    (hn : (Builtin.lenOf x).run P w = .ok n w) (hnf : (Builtin.firstCells i.size n x).run P w = .ok news w) (hroom : len + n ≤ c) :
    Did P ρ A w (Builtin.append_ #[t, u] ty #[.slice (some ⟨ρ.bb id, off, none⟩) len c, x]) (.sl m.n [] 0 (len + n) true)
      ((m.del id).add (.cells (.arr (len + n) s (joined len (fun j => f (j + lo)) g)) true)) := by
  obtain ⟨b1, b2, b3, ⟨bc, be, bz, b4⟩, b5, b6⟩ := hR.blk id _ hid
  have hp : PathTo (ρ.sh id) [] (.arr n0 s) 0 := ⟨b2, rfl⟩
  obtain ⟨hfw, hcells⟩ := slice_cells hR hid (path := []) rfl hp (show lo + len ≤ n0 by omega) hlc hoff (Nat.le_refl _)
  have hglen : news.toList.length = n * s.size := by
    rw [← hnw.len]; exact flatMap_len n s.size _ fun k _ => by rw [AV.flat_len _ (hg k).1, (hg k).2]
  have hone : ∀ v ∈ news.toList, v.oneCell' = true := fun v hv => let ⟨_, h⟩ := hnw.right v hv; h.one
  obtain ⟨k1, k2, k3⟩ := b6 rfl
  have hin : ∀ r, r < c * s.size → (∃ rv, w.cell? ⟨ρ.bb id, off + r, none⟩ = some rv) ∧ w.frozen? ⟨ρ.bb id, off + r, none⟩ = false := fun r hr => by
    have hc0 : 0 < c := by
      rcases Nat.eq_zero_or_pos c with h | h
      · subst h; simp at hr
      · exact h
    have h1 := hrm hc0
    rw [Nat.add_mul] at h1
    rw [hoff hc0, show ρ.bo id + 0 + lo * s.size + r = ρ.bo id + (lo * s.size + r) by omega]
    exact k3 _ (by omega)
  have hmul : (len + n) * s.size ≤ c * s.size := Nat.mul_le_mul_right _ hroom
  rw [Nat.add_mul] at hmul
  obtain ⟨w', g1, g2⟩ := run_storeCells (P := P) (b := ρ.bb id) news.toList w (off + len * s.size) 0 hone (fun r hr => by
    rw [show off + len * s.size + 0 + r = off + (len * s.size + r) by omega]
    exact hin _ (by omega))
  rw [Nat.add_zero] at g2
  have hrun := run_append_in (P := P) (w := w) (w' := w') (ty := ty) ht hu hi ⟨ρ.bb id, off, none⟩ len c x n news hn hnf hroom (by rw [Addr.add_off, ← hs]; exact g1)
  have hj := joined_ok (len := len) (n := n) (f := fun j => f (j + lo)) (fun j => hfw _) hg
  have hflen : (rowFlat (fun j => f (j + lo)) len).length = len * s.size := flatMap_len _ _ _ fun k _ => by rw [AV.flat_len _ (hfw _).1, (hfw _).2]
  have hle := Ren.le_add hR.lt (ρ.bb id) off (.arr (len + n) s) (c * s.size)
  have hadd := (hR.del id).add (w' := w') (bb := ρ.bb id) (bo := off) (room := c * s.size) (sh := .arr (len + n) s) (b := .cells (.arr (len + n) s (joined len (fun j => f (j + lo)) g)) true)
    (by rw [g2.size]; exact Nat.le_refl _) (fun j b hb => g2.other _ (hR.sepBlock hid hb).1) (fun j b hb => (hR.sepBlock hid hb).1) (g2.upd k1).old (by
      have e1 : (ρ.add (ρ.bb id) off (.arr (len + n) s) (c * s.size)).bb ρ.n = ρ.bb id := by simp [Ren.add]
      have e2 : (ρ.add (ρ.bb id) off (.arr (len + n) s) (c * s.size)).bo ρ.n = off := by simp [Ren.add]
      have e3 : (ρ.add (ρ.bb id) off (.arr (len + n) s) (c * s.size)).sh ρ.n = .arr (len + n) s := by simp [Ren.add]
      have e4 : (ρ.add (ρ.bb id) off (.arr (len + n) s) (c * s.size)).room ρ.n = c * s.size := by simp [Ren.add]
      simp only [BlkOk]
      rw [e1, e2, e3, e4, hj.2]
      refine ⟨rfl, hj.1, let ⟨c', h'⟩ := g2.same _ _ _ b4; ⟨c', be, bz, h'⟩, fun r v hv => ?_, fun _ => ⟨k1, ?_, fun r hr => ⟨?_, by rw [g2.froz]; exact (hin r hr).2⟩⟩⟩
      · rw [g2.cell]
        rcases Nat.lt_or_ge r (len * s.size) with h | h
        · rw [if_neg (by omega)]
          rw [List.getElem?_append_left (by omega)] at hv
          obtain ⟨rv, q1, q2⟩ := hcells r v hv
          exact ⟨rv, q1, q2.le hle⟩
        · rw [List.getElem?_append_right (by omega), hflen] at hv
          obtain ⟨rv, q1, q2⟩ := hnw.get hv
          have hlt : r - len * s.size < n * s.size := by rw [← hglen]; exact (List.getElem?_eq_some_iff.1 q1).1
          rw [if_pos (by omega)]
          exact ⟨rv, by rw [← q1]; congr 1; omega, q2.le hle⟩
      · simp only [AV.shape, Sh.size, Nat.add_mul]; exact hmul
      · rw [g2.cell]
        split
        · rename_i hq
          exact ⟨_, List.getElem?_eq_getElem (by omega)⟩
        · exact (hin r hr).1)
  refine ⟨_, _, _, hrun, Ren.ext_add hR.lt _ _ _ _, hadd, g2.upd k1, ?_⟩
  have en : m.n = ρ.n := hR.n.symm
  rw [en]
  refine ⟨by simp [Ren.add], len + n, s, 0, off, c, ?_, by omega, hroom, ?_, fun _ => ?_, fun _ => ⟨rfl, by omega, fun _ => ?_⟩⟩
  · simp only [Ren.add, if_true]; exact ⟨rfl, rfl⟩
  · simp [Ren.add]
  · simp [Ren.add]
  · simp only [Ren.add, if_true]; rw [Nat.zero_add]; exact Nat.le_refl _

theorem did_same {A : Nat → Prop} {w : World} {m : Mem} (hR : Rep ρ A m w) {s : Sem Value} {r : AV} {rv : Value} (h : s.run P w = .ok rv w) (hv : VR3 ρ r rv) : Did P ρ A w s r m :=
  ⟨ρ, rv, w, h, Ren.ext.refl ρ, hR, Upd.refl A w, hv⟩

theorem did_append {A : Nat → Prop} {w : World} {m m' : Mem} (hR : Rep ρ A m w) {ts : Array TypeId} {ty : TypeId} {args : List AV} {vs : List Value} {cd : Option Bool} {r : AV}
    (h : evAppend P m ts args = some (cd, r, m')) (hcd : cd = none ∨ cd = some true) (ha : All2 (VR3 ρ) args vs) :
    Did P ρ A w (Builtin.append_ ts ty vs.toArray) r m' := by
  unfold evAppend at h
  split at h <;> try (cases h; done)
  rename_i d x t u hts
  obtain ⟨vd, vx, rfl, hd, hx⟩ : ∃ vd vx, vs = [vd, vx] ∧ VR3 ρ d vd ∧ VR3 ρ x vx := by
    match vs, ha with
    | [a, b], ha => exact ⟨a, b, rfl, ha.1, ha.2.1⟩
  have hts' : ts = #[t, u] := by apply Array.ext'; simpa using hts
  subst hts'
  split at h <;> try (cases h; done)
  rename_i e ht
  split at h <;> try (cases h; done)
  rename_i z hz
  split at h <;> try (cases h; done)
  rename_i hcc
  obtain ⟨c1, c2, c3, c4⟩ := hcc
  obtain ⟨i, zv, hi, hzv, hw, hval0, hvr0, hm⟩ := evZero_ok (ρ := ρ) hz
  have hsz : z.shape.size = i.size := by rw [c2]; simp [Program.cellsOf, hi]
  have hzs : zv.cells.size = i.size := by rw [← Array.length_toList, ← hm.len, AV.flat_len z hw, hsz]
  have hby : i.bytes ≤ 1024 := by simpa [Program.bytesOf, hi] using c4
  split at h <;> try (cases h; done)
  · cases h; cases hd; cases hx
    exact did_same (rv := .slice none 0 0) hR (by
      unfold noNumber at c1
      split at c1 <;> try (cases c1; done)
      all_goals
        rename_i hu'
        simp [Builtin.append_, run_underlying ht, run_underlying hu', sizeOf, typeInfo, hi, Builtin.lenOf, Builtin.firstCells]) rfl
  · rename_i id path lo len tip
    cases h; cases hx
    have hd' := hd
    obtain ⟨h1, n2, s2, o, off, c, hp, hn, hc, rfl, hoff, htip⟩ := hd
    exact did_same hR (rv := .slice (some ⟨ρ.bb id, off, none⟩) len c) (by
      have := run_append_in (P := P) (w := w) (w' := w) (ty := ty) ht c1 hi ⟨ρ.bb id, off, none⟩ len c (.slice none 0 0) 0 #[] rfl (by simp [Builtin.firstCells]) (by omega) (by rfl)
      exact this) hd'
  · split at h <;> try (cases h; done)
    rename_i n s g hsrc
    cases hb : s.beq z.shape with
    | false => rw [hb] at h; cases h
    | true =>
    rw [hb, cond_true] at h
    simp only [Option.some.injEq, Prod.mk.injEq] at h
    obtain ⟨rfl, rfl, rfl⟩ := h
    have hlen := cond_of hcd
    simp only [Bool.and_eq_true, Nat.ble_eq] at hlen
    cases hd
    have hss := Sh.beq_eq _ _ hb
    obtain ⟨g1, g2, g3⟩ := evSource_ok (P := P) hR hsrc hx
    obtain ⟨news, n1, n2⟩ := g3 n (Nat.le_refl _)
    have := did_grow (P := P) (ty := ty) hR ht c1 hi hzv hby none 0 0 vx n (s := s) (by rw [hss, hsz]) hzs (f := g) (g := g) g1 g1 #[] news trivial n1 (g2 w) (by simp [Builtin.firstCells])
      (by rw [← hsz, ← hss]; exact n2 _ rfl) (by omega) (by omega)
    rw [Nat.zero_add] at this
    have he : joined 0 g g = g := by
      funext j
      simp only [joined, Nat.sub_zero]
      exact sel_self _ _
    rw [he] at this
    exact this
  · split at h <;> try (cases h; done)
    rename_i id lo len hxn ob osrc n0 s f n s' g hid hsrc
    clear hxn ob osrc
    cases hb : s.beq z.shape && s'.beq s with
    | false => rw [hb] at h; cases h
    | true =>
    rw [hb, cond_true] at h
    simp only [Option.some.injEq, Prod.mk.injEq] at h
    obtain ⟨rfl, rfl, rfl⟩ := h
    have hlen := cond_of hcd
    simp only [Nat.ble_eq] at hlen
    simp only [Bool.and_eq_true] at hb
    have hss := Sh.beq_eq _ _ hb.1
    have hss' := Sh.beq_eq _ _ hb.2
    subst hss'
    obtain ⟨g1, g2, g3⟩ := evSource_ok (P := P) hR hsrc hx
    obtain ⟨news, n1, n2⟩ := g3 n (Nat.le_refl _)
    have hsd : evSource m (.sl id [] lo len true) = some (len, s', fun j => f (j + lo)) := by simp [evSource, hid, AV.get]
    obtain ⟨f1, f2, f3⟩ := evSource_ok (P := P) hR hsd hd
    obtain ⟨olds, o1, o2⟩ := f3 len (Nat.le_refl _)
    obtain ⟨h1, n2', s2, o, off, c, hp, hn, hc, rfl, hoff, htip⟩ := hd
    obtain ⟨b1, b2, b3, b4, b5, b6⟩ := hR.blk id _ hid
    obtain ⟨t1, t2, t3⟩ := htip rfl
    have hp2 : PathTo (ρ.sh id) [] (.arr n0 s') 0 := ⟨b2, rfl⟩
    obtain ⟨u1, u2⟩ := hp.unique hp2
    cases u1; subst u2
    by_cases hroom : len + n ≤ c
    · exact did_growIn (P := P) (ty := ty) hR ht c1 hi hid (by rw [hss, hsz]) t2 hc hoff t3 vx n g1 news n1 (g2 w) (by rw [← hsz, ← hss]; exact n2 _ rfl) hroom
    · exact did_grow (P := P) (ty := ty) (hR.del id) ht c1 hi hzv hby (some ⟨ρ.bb id, off, none⟩) len c vx n (s := s') (by rw [hss, hsz]) hzs (f := fun j => f (j + lo)) (g := g) f1 g1 olds news o1 n1 (g2 w)
        (by rw [← hsz, ← hss]; exact o2 _ rfl) (by rw [← hsz, ← hss]; exact n2 _ rfl) (by omega) hlen

end
end Go.Ev
