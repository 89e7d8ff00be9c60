/-
  Texts joined: Xb Xc Xd Xe Xf Xg Xh Xi Xj Xk Xl Xm Xn Xo Xp Xq Xr Xs Xt Xu Xv Xw Xx Xy.
-/
import Derived.Test.YtcmknfnnapnecaaXa
import Derived.Test.YtcmknfnnapnecaaUx
set_option linter.unusedVariables false
set_option linter.unusedSimpArgs false
set_option maxRecDepth 100000
namespace Go.Proofs.Ytcmknfnnapnecaa.PV
noncomputable section
open Go Go.Ev
/- A state that is made clean: some state. -/

structure Sta where
  X : Nat → Int
  pc : Int
  lv : Int
  V : Bool
  C : Nat → Int
  dn : Int
def staSh : Sh := .agg [.arr 32 (.int .u64), .int .u64, .int .i64, .bool, .arr 29 (.int .u64), .int .u64]
def staA (s : Sta) : AV := .agg [.arr 32 (.int .u64) fun j => .it .u64 (s.X j), .it .u64 s.pc, .it .i64 s.lv, .bl s.V, .arr 29 (.int .u64) fun j => .it .u64 (s.C j), .it .u64 s.dn]
def deSta (a : AV) : Sta := ⟨fun j => ((a.fld 0).ix j).num, (a.fld 1).num, (a.fld 2).num, (a.fld 3).bool, fun j => ((a.fld 4).ix j).num, (a.fld 5).num⟩
theorem norm_sta (a : AV) : norm staSh a = staA (deSta a) := rfl
def PC : Pcs := lookR T39
theorem PC_ok : PSound Try.prog PC := T39_ok
def clL : Lq := { n := 49, n0 := 2, ts := [1, 2, 3], mv := [], ids := [(0, true), (1, true)] }
def clZ : Sta := ⟨fun _ => 0, 0, 0, false, fun _ => 0, 0⟩
def clS (s z : Sta) (i : Int) : List AV := [.pt 0 [] staSh, .pt 1 [] staSh, .it .i64 i, staA s, staA z]
def clN (s : Sta) (i : Int) : Sta := ⟨s.X, s.pc, s.lv, s.V, fun j => bif j == i.toNat then iAnd .u64 (s.C i.toNat) (sallyportref8_Mask0 i) else s.C j, s.dn⟩
theorem clA (s z : Sta) (i : Int) : evC Try.prog okT PC (HH []) RW NOV 101 false (bodyOf Try.f24.body 0) (clL.F (clS s z i)) (clL.M (clS s z i)) (grabJ 0 (grabQ clL)) =
    some (iLt i 29 && (iIn i 29 && (iIn i 29 && true)), .tup (.it .i64 0 :: clS (clN s i) z (iAdd .i64 i 1))) := by kernel_rfl
theorem clX (s z : Sta) (i : Int) : evC Try.prog okT PC (HH []) RW NOV 101 false (bodyOf Try.f24.body 0) (clL.F (clS s z i)) (clL.M (clS s z i)) (grabJ 2 (grabQ clL)) =
    some (!iLt i 29 && true, .tup (.it .i64 2 :: clS s z i)) := by kernel_rfl
structure ClW where
  c : Sta → Sta
def clShs : List Sh := [.ref, .ref, .int .i64, staSh, staSh]
def clGo (W : ClW) : (Nat → AV) → Kc → Option Out := goJ (fun g => isPt 0 staSh (g 0) && isPt 1 staSh (g 1)) (fun g => iEq (g 2).num 0) .normal
  (fun g => clL.F (clS (W.c (deSta (g 3))) (deSta (g 4)) 29)) (fun g => clL.M (clS (W.c (deSta (g 3))) (deSta (g 4)) 29))
/-- What is done ahead of the loop, and behind it. -/
def clPre (s : Sta) (l : Int) (v : Bool) : Sta := ⟨fun j => bif j == 0 then 0 else s.X j, s.pc, l, v, s.C, s.dn⟩
def clPost (s : Sta) : Sta := ⟨s.X, iAndNot .u64 s.pc 3, s.lv, s.V, fun j => bif j == 0 then sallyportref8_Mpp0 (s.C 0) else s.C j, s.dn⟩
def clBad (s : Sta) : Bool := bif (bif iNe s.lv 0 then iNe s.lv 1 else false) then iNe s.lv 3 else false
theorem clLaw (W : ClW) (s : Sta) : evFn Try.prog okT PC (HH []) RW (ovN 0 clL clShs (clGo W)) 101 false Try.f24 [staA s] Mem.empty (finQ L0) =
    some (Om.pick (clBad s) (Om.pick true (iEq 0 0 && true, .tup [.it .i64 0, staA (clPost (W.c (clPre s 3 false)))]) (iEq 0 0 && true, .tup [.it .i64 0, staA (clPost (W.c (clPre s 3 s.V)))]))
      (Om.pick (iEq s.lv 3) (iEq 0 0 && true, .tup [.it .i64 0, staA (clPost (W.c (clPre s s.lv false)))]) (iEq 0 0 && true, .tup [.it .i64 0, staA (clPost (W.c (clPre s s.lv s.V)))]))) := by kernel_rfl
def clCs (s : Sta) : Nat → Sta
  | 0 => s
  | i + 1 => clN (clCs s i) (i : Nat)
def clW : ClW := ⟨fun s => clCs s 29⟩
theorem turnC {b : Code} {L : Lq} (hL : L.wf = true) {K : Kc} (hK : Part L K) {fr : Fr} {m : Mem} (hg0 : NoGd fr) {c : Int} {r : List AV} {g : Bool}
    (he : evC Try.prog okT PC (HH []) RW NOV 101 false b fr m K = some (g, .tup (.it .i64 c :: r))) (hg : g = true) (hr : L.ok r = true) : Turn Try.prog L.n0 b fr m c (L.F r) (L.M r) :=
  turnK_ok mix fair PC_ok okH0 (OvOk_none _) hL hK hg0 he hg hr
theorem clGo_ok : GoesN Try.prog 0 (.loop (bodyOf Try.f24.body 0)) clL clShs (clGo clW) := goJ_ok fun g h1 h2 => by
  simp only [Bool.and_eq_true] at h1
  refine ⟨noGd_all (L := clL) rfl, fun fr m hm hb => ?_⟩
  have hst : norms clShs 0 g = clS (deSta (g 3)) (deSta (g 4)) 0 := by
    have : norms clShs 0 g = [g 0, g 1, .it .i64 (g 2).num, staA (deSta (g 3)), staA (deSta (g 4))] := rfl
    rw [this, isPt_ok h1.1, isPt_ok h1.2, iEq_true.1 h2]
    rfl
  rw [hst] at hb
  refine loopJ_block (F := fun j => clL.F (clS (clCs (deSta (g 3)) j) (deSta (g 4)) (j : Nat))) (M := fun j => clL.M (clS (clCs (deSta (g 3)) j) (deSta (g 4)) (j : Nat))) (n := 29) (c := 2) (fun j hj => ?_) ?_ (by decide) hm hb (e := .exit 0) rfl
  · have hE := clA (clCs (deSta (g 3)) j) (deSta (g 4)) ((j : Nat) : Int)
    rw [iAdd_n j (by omega), iLt_true.2 (show (j : Int) < 29 by omega), iIn_true.2 (show 0 ≤ (j : Int) ∧ (j : Int) < (29 : Nat) by omega)] at hE
    exact turnC (L := clL) rfl (grabJ_part 0 (Part.refl _)) (noGd_all (L := clL) rfl) hE rfl rfl
  · exact turnC (L := clL) rfl (grabJ_part 2 (Part.refl _)) (noGd_all (L := clL) rfl) (clX (clCs (deSta (g 3)) 29) (deSta (g 4)) ((29 : Nat) : Int)) rfl rfl
theorem cl_blk (c : Code) (hc : Try.f24.body = some c) : blks c = [(0, .loop (bodyOf Try.f24.body 0)), (1, blkAt ((Try.f24.body).getD .skip) 1)] := by
  rw [show c = (Try.f24.body).getD .skip by rw [hc]; rfl]
  kernel_rfl
theorem cl_ov : ∀ c, Try.f24.body = some c → OvOk Try.prog (ovN 0 clL clShs (clGo clW)) c := fun c hc => ovN_ok rfl clGo_ok fun x hx h => by
  rw [cl_blk c hc] at hx
  simp only [List.mem_cons, List.not_mem_nil, or_false] at hx
  rcases hx with rfl | rfl <;> first | rfl | (cases h; done)
/-- The state that is made clean. -/
def cleanF (s : Sta) : Sta := clPost (clCs (clPre s (bif clBad s then 3 else s.lv) (bif (bif clBad s then true else iEq s.lv 3) then false else s.V)) 29)
theorem clean_small (s : Sta) : Small Try.prog 24 [staA s] Mem.empty (staA (cleanF s)) Mem.empty := by
  have hp : Plain Try.prog 24 Try.f24 := ⟨Try.func24, of_decide_eq_true (by kernel_rfl)⟩
  have hE := clLaw clW s
  unfold cleanF
  cases h1 : clBad s with
  | true =>
    rw [h1, Om.pick_t, Om.pick_t] at hE
    exact small_ok mix fair PC_ok okH0 hp cl_ov hE rfl rfl rfl rfl rfl rfl
  | false =>
    rw [h1, Om.pick_f] at hE
    cases h2 : iEq s.lv 3 with
    | true =>
      rw [h2, Om.pick_t] at hE
      exact small_ok mix fair PC_ok okH0 hp cl_ov hE rfl rfl rfl rfl rfl rfl
    | false =>
      rw [h2, Om.pick_f] at hE
      exact small_ok mix fair PC_ok okH0 hp cl_ov hE rfl rfl rfl rfl rfl rfl
/-- A function of one value, without memory. -/
def rowV (s : Sh) (V : AV → AV) : MRow := fun args _ => match args with
  | [a] => bif a.shape.beq s && plain a then some (none, [], V a, Mem.empty) else none
  | _ => none
theorem rowV_ok {f : FuncId} {s : Sh} {V : AV → AV} (hV : ∀ a, okV (V a) = true) (h : ∀ a, Small Try.prog f [norm s a] Mem.empty (V a) Mem.empty) : MRowOk Try.prog f (rowV s V) := fun args m c τ u m1 he _ => by
  unfold rowV at he
  split at he <;> try (cases he; done)
  rename_i a
  cases hb : a.shape.beq s && plain a with
  | false => rw [hb] at he; cases he
  | true =>
  rw [hb, cond_true] at he
  cases he
  simp only [Bool.and_eq_true] at hb
  refine ⟨[a], Mem.empty, Small.of_wf fun w1 _ => ?_, ⟨List.nodup_nil, rfl, ⟨.inl ⟨hb.2, rfl⟩, trivial⟩, fun i hi => ?_, fun i b hb => ?_⟩, Nat.le_refl _, hV _, fun i b hb => ?_⟩
  · have := h a
    rw [norm_eq s a w1.1 (Sh.beq_eq _ _ hb.1)] at this
    exact this
  · simp at hi
  · simp only [Mem.get, Mem.empty, Tr.get_mk] at hb; cases hb
  · simp only [Mem.get, Mem.empty, Tr.get_mk] at hb; cases hb
def cleanRow : MRow := rowV staSh fun a => staA (cleanF (deSta a))
theorem cleanRow_ok : MRowOk Try.prog 24 cleanRow := rowV_ok (fun _ => rfl) fun a => clean_small (deSta a)

/- The document's fences. -/
def rsL : Lq := { n := 68, n0 := 2, ts := [0, 2, 3, 4, 6, 11, 12], mv := [], ids := [(0, true), (1, true)] }
def rsS (T : Tab) (s : Sta) (v : Bool) (p a n i : Int) : List AV := [.pt 0 [] tlbSh, .bl v, .it .i64 p, .it .i64 a, .pt 1 [] staSh, .it .i64 n, .it .i64 i, tlbA T, staA s]
def rhL : Lq := { n := 47, n0 := 1, ts := [0, 1, 2, 7, 8], mv := [], ids := [(0, true)] }
def rhS (T : Tab) (p a n i : Int) : List AV := [.pt 0 [] tlbSh, .it .i64 p, .it .i64 a, .it .i64 n, .it .i64 i, tlbA T]
/-- The entries of a property go: what is left, how many went. -/
def zpT (f : En → Bool) (T : Tab) : Nat → Tab
  | 0 => T
  | j + 1 => bif f (T j) then putF (zpT f T j) j noEn else zpT f T j
def zpN (f : En → Bool) (T : Tab) : Nat → Nat
  | 0 => 0
  | j + 1 => bif f (T j) then zpN f T j + 1 else zpN f T j
theorem zpT_ge (f : En → Bool) (T : Tab) : ∀ (j k : Nat), j ≤ k → zpT f T j k = T k
  | 0, _, _ => rfl
  | j + 1, k, h => by
    unfold zpT
    cases f (T j) with
    | true => rw [cond_true, putF_ne _ _ (by omega)]; exact zpT_ge f T j k (by omega)
    | false => exact zpT_ge f T j k (by omega)
theorem zpN_le (f : En → Bool) (T : Tab) : ∀ j, zpN f T j ≤ j
  | 0 => Nat.le_refl _
  | j + 1 => by
    unfold zpN
    have := zpN_le f T j
    cases f (T j) <;> simp <;> omega
def sfVm (s : Sta) : Int := iConv .i64 (iAnd .u64 (iShr .u64 (s.C 21) 16) 255)
def nmd (n w : Int) : Bool := sallyportref13_named0 n w
def rsQ (v : Bool) (p a : Int) (e : En) : Bool := bif bif bif e.ok then e.v == v else false then nmd e.page p else false then nmd e.asid a else false
def rsP (vm : Int) (v : Bool) (p a : Int) (e : En) : Bool := bif rsQ v p a e then bif !v then true else iEq e.vmid vm else false
def rhP (p a : Int) (e : En) : Bool := bif bif bif e.ok then e.v else false then nmd e.guest p else false then nmd e.vmid a else false
theorem rsA (T : Tab) (s : Sta) (v : Bool) (p a n i : Int) : evC Try.prog okT PC (HH []) RW NOV 101 false (bodyOf Try.f30.body 0) (rsL.F (rsS T s v p a n i)) (rsL.M (rsS T s v p a n i)) (grabJ 0 (grabQ rsL)) =
    some (Om.land (iLt i 16) (Om.land (iIn i 16) (Om.land (!(rsQ v p a (T i.toNat) && !!v) || true) (Om.pick (rsP (sfVm s) v p a (T i.toNat))
      (iIn i 16 && true, .tup (.it .i64 0 :: rsS (rdZ T i) s v p a (iAdd .i64 n 1) (iAdd .i64 i 1))) (true, .tup (.it .i64 0 :: rsS T s v p a n (iAdd .i64 i 1))))))) := by kernel_rfl
theorem rsX (T : Tab) (s : Sta) (v : Bool) (p a n i : Int) : evC Try.prog okT PC (HH []) RW NOV 101 false (bodyOf Try.f30.body 0) (rsL.F (rsS T s v p a n i)) (rsL.M (rsS T s v p a n i)) (grabJ 2 (grabQ rsL)) =
    some (!iLt i 16 && true, .tup (.it .i64 2 :: rsS T s v p a n i)) := by kernel_rfl
theorem rhA (T : Tab) (p a n i : Int) : evC Try.prog okT PC (HH []) RW NOV 101 false (bodyOf Try.f32.body 0) (rhL.F (rhS T p a n i)) (rhL.M (rhS T p a n i)) (grabJ 0 (grabQ rhL)) =
    some (Om.land (iLt i 16) (Om.land (iIn i 16) (Om.pick (rhP p a (T i.toNat))
      (iIn i 16 && true, .tup (.it .i64 0 :: rhS (rdZ T i) p a (iAdd .i64 n 1) (iAdd .i64 i 1))) (true, .tup (.it .i64 0 :: rhS T p a n (iAdd .i64 i 1)))))) := by kernel_rfl
theorem rhX (T : Tab) (p a n i : Int) : evC Try.prog okT PC (HH []) RW NOV 101 false (bodyOf Try.f32.body 0) (rhL.F (rhS T p a n i)) (rhL.M (rhS T p a n i)) (grabJ 2 (grabQ rhL)) =
    some (!iLt i 16 && true, .tup (.it .i64 2 :: rhS T p a n i)) := by kernel_rfl
structure ZpW where
  t : (En → Bool) → Tab → Tab
  n : (En → Bool) → Tab → Int
def zpW : ZpW := ⟨fun f T => zpT f T 16, fun f T => zpN f T 16⟩
def rsShs : List Sh := [.ref, .bool, .int .i64, .int .i64, .ref, .int .i64, .int .i64, tlbSh, staSh]
def rsE (W : ZpW) (g : Nat → AV) : List AV := rsS (W.t (rsP (sfVm (deSta (g 8))) (g 1).bool (g 2).num (g 3).num) (deT (g 7))) (deSta (g 8)) (g 1).bool (g 2).num (g 3).num (W.n (rsP (sfVm (deSta (g 8))) (g 1).bool (g 2).num (g 3).num) (deT (g 7))) 16
def rsGo (W : ZpW) : (Nat → AV) → Kc → Option Out := goJ (fun g => isPt 0 tlbSh (g 0) && isPt 1 staSh (g 4)) (fun g => iEq (g 5).num 0 && iEq (g 6).num 0) .normal (fun g => rsL.F (rsE W g)) (fun g => rsL.M (rsE W g))
def rhShs : List Sh := [.ref, .int .i64, .int .i64, .int .i64, .int .i64, tlbSh]
def rhE (W : ZpW) (g : Nat → AV) : List AV := rhS (W.t (rhP (g 1).num (g 2).num) (deT (g 5))) (g 1).num (g 2).num (W.n (rhP (g 1).num (g 2).num) (deT (g 5))) 16
def rhGo (W : ZpW) : (Nat → AV) → Kc → Option Out := goJ (fun g => isPt 0 tlbSh (g 0)) (fun g => iEq (g 3).num 0 && iEq (g 4).num 0) .normal (fun g => rhL.F (rhE W g)) (fun g => rhL.M (rhE W g))
theorem rsLaw (W : ZpW) (T : Tab) (s : Sta) (v : Bool) (p a : Int) : evFn Try.prog okT PC (HH []) RW (ovN 0 rsL rsShs (rsGo W)) 101 false Try.f30 [.pt 0 [] tlbSh, staA s, .bl v, .it .i64 p, .it .i64 a] (mem1 (tlbA T)) (finQ L1) =
    some ((iEq 0 0 && iEq 0 0) && true, .tup [.it .i64 0, .it .i64 (W.n (rsP (sfVm s) v p a) T), tlbA (W.t (rsP (sfVm s) v p a) T)]) := by kernel_rfl
theorem rhLaw (W : ZpW) (T : Tab) (p a : Int) : evFn Try.prog okT PC (HH []) RW (ovN 0 rhL rhShs (rhGo W)) 101 false Try.f32 [.pt 0 [] tlbSh, .it .i64 p, .it .i64 a] (mem1 (tlbA T)) (finQ L1) =
    some ((iEq 0 0 && iEq 0 0) && true, .tup [.it .i64 0, .it .i64 (W.n (rhP p a) T), tlbA (W.t (rhP p a) T)]) := by kernel_rfl
theorem zp_step (f : En → Bool) (T : Tab) (j : Nat) (h : f (T j) = true) : rdZ (zpT f T j) (j : Nat) = zpT f T (j + 1) := by
  rw [rdZ_eq, Int.toNat_natCast]
  conv => rhs; unfold zpT
  rw [h]; rfl
theorem zp_keep (f : En → Bool) (T : Tab) (j : Nat) (h : f (T j) = false) : zpT f T j = zpT f T (j + 1) ∧ zpN f T j = zpN f T (j + 1) := by
  constructor
  · conv => rhs; unfold zpT
    rw [h]; rfl
  · conv => rhs; unfold zpN
    rw [h]; rfl
theorem zp_more (f : En → Bool) (T : Tab) (j : Nat) (h : f (T j) = true) : zpN f T (j + 1) = zpN f T j + 1 := by
  conv => lhs; unfold zpN
  rw [h]; rfl
theorem rsGo_ok : GoesN Try.prog 0 (.loop (bodyOf Try.f30.body 0)) rsL rsShs (rsGo zpW) := goJ_ok fun g h1 h2 => by
  simp only [Bool.and_eq_true] at h1 h2
  refine ⟨noGd_all (L := rsL) rfl, fun fr m hm hb => ?_⟩
  generalize hf : rsP (sfVm (deSta (g 8))) (g 1).bool (g 2).num (g 3).num = f
  have hst : norms rsShs 0 g = rsS (deT (g 7)) (deSta (g 8)) (g 1).bool (g 2).num (g 3).num 0 0 := by
    have : norms rsShs 0 g = [g 0, .bl (g 1).bool, .it .i64 (g 2).num, .it .i64 (g 3).num, g 4, .it .i64 (g 5).num, .it .i64 (g 6).num, tlbA (deT (g 7)), staA (deSta (g 8))] := rfl
    rw [this, isPt_ok h1.1, isPt_ok h1.2, iEq_true.1 h2.1, iEq_true.1 h2.2]
    rfl
  rw [hst] at hb
  unfold rsE
  rw [hf]
  refine loopJ_block (F := fun j => rsL.F (rsS (zpT f (deT (g 7)) j) (deSta (g 8)) (g 1).bool (g 2).num (g 3).num (zpN f (deT (g 7)) j : Nat) (j : Nat))) (M := fun j => rsL.M (rsS (zpT f (deT (g 7)) j) (deSta (g 8)) (g 1).bool (g 2).num (g 3).num (zpN f (deT (g 7)) j : Nat) (j : Nat))) (n := 16) (c := 2)
    (fun j hj => ?_) ?_ (by decide) hm hb (e := .exit 0) rfl
  · have hE := rsA (zpT f (deT (g 7)) j) (deSta (g 8)) (g 1).bool (g 2).num (g 3).num (zpN f (deT (g 7)) j : Nat) ((j : Nat) : Int)
    have hle := zpN_le f (deT (g 7)) j
    rw [iAdd_n j (by omega), iAdd_n (zpN f (deT (g 7)) j) (by omega), iLt_true.2 (show (j : Int) < 16 by omega), iIn_true.2 (show 0 ≤ (j : Int) ∧ (j : Int) < (16 : Nat) by omega), hf, Int.toNat_natCast, zpT_ge f _ j j (Nat.le_refl _), Bool.or_true] at hE
    cases hc : f (deT (g 7) j) with
    | true =>
      rw [hc, Om.pick_t, zp_step f _ j hc, ← zp_more f _ j hc] at hE
      exact turnC (L := rsL) rfl (grabJ_part 0 (Part.refl _)) (noGd_all (L := rsL) rfl) hE rfl rfl
    | false =>
      rw [hc, Om.pick_f, (zp_keep f _ j hc).1, (zp_keep f _ j hc).2] at hE
      have q := zp_keep f (deT (g 7)) j hc
      show Turn _ _ _ (rsL.F (rsS (zpT f (deT (g 7)) j) (deSta (g 8)) (g 1).bool (g 2).num (g 3).num (zpN f (deT (g 7)) j : Nat) (j : Nat))) (rsL.M (rsS (zpT f (deT (g 7)) j) (deSta (g 8)) (g 1).bool (g 2).num (g 3).num (zpN f (deT (g 7)) j : Nat) (j : Nat))) _ _ _
      rw [q.1, q.2]
      exact turnC (L := rsL) rfl (grabJ_part 0 (Part.refl _)) (noGd_all (L := rsL) rfl) hE rfl rfl
  · exact turnC (L := rsL) rfl (grabJ_part 2 (Part.refl _)) (noGd_all (L := rsL) rfl) (rsX (zpT f (deT (g 7)) 16) (deSta (g 8)) (g 1).bool (g 2).num (g 3).num (zpN f (deT (g 7)) 16 : Nat) ((16 : Nat) : Int)) rfl rfl
theorem rhGo_ok : GoesN Try.prog 0 (.loop (bodyOf Try.f32.body 0)) rhL rhShs (rhGo zpW) := goJ_ok fun g h1 h2 => by
  simp only [Bool.and_eq_true] at h2
  refine ⟨noGd_all (L := rhL) rfl, fun fr m hm hb => ?_⟩
  generalize hf : rhP (g 1).num (g 2).num = f
  have hst : norms rhShs 0 g = rhS (deT (g 5)) (g 1).num (g 2).num 0 0 := by
    have : norms rhShs 0 g = [g 0, .it .i64 (g 1).num, .it .i64 (g 2).num, .it .i64 (g 3).num, .it .i64 (g 4).num, tlbA (deT (g 5))] := rfl
    rw [this, isPt_ok h1, iEq_true.1 h2.1, iEq_true.1 h2.2]
    rfl
  rw [hst] at hb
  unfold rhE
  rw [hf]
  refine loopJ_block (F := fun j => rhL.F (rhS (zpT f (deT (g 5)) j) (g 1).num (g 2).num (zpN f (deT (g 5)) j : Nat) (j : Nat))) (M := fun j => rhL.M (rhS (zpT f (deT (g 5)) j) (g 1).num (g 2).num (zpN f (deT (g 5)) j : Nat) (j : Nat))) (n := 16) (c := 2)
    (fun j hj => ?_) ?_ (by decide) hm hb (e := .exit 0) rfl
  · have hE := rhA (zpT f (deT (g 5)) j) (g 1).num (g 2).num (zpN f (deT (g 5)) j : Nat) ((j : Nat) : Int)
    have hle := zpN_le f (deT (g 5)) j
    rw [iAdd_n j (by omega), iAdd_n (zpN f (deT (g 5)) j) (by omega), iLt_true.2 (show (j : Int) < 16 by omega), iIn_true.2 (show 0 ≤ (j : Int) ∧ (j : Int) < (16 : Nat) by omega), hf, Int.toNat_natCast, zpT_ge f _ j j (Nat.le_refl _)] at hE
    cases hc : f (deT (g 5) j) with
    | true =>
      rw [hc, Om.pick_t, zp_step f _ j hc, ← zp_more f _ j hc] at hE
      exact turnC (L := rhL) rfl (grabJ_part 0 (Part.refl _)) (noGd_all (L := rhL) rfl) hE rfl rfl
    | false =>
      rw [hc, Om.pick_f, (zp_keep f _ j hc).1, (zp_keep f _ j hc).2] at hE
      have q := zp_keep f (deT (g 5)) j hc
      show Turn _ _ _ (rhL.F (rhS (zpT f (deT (g 5)) j) (g 1).num (g 2).num (zpN f (deT (g 5)) j : Nat) (j : Nat))) (rhL.M (rhS (zpT f (deT (g 5)) j) (g 1).num (g 2).num (zpN f (deT (g 5)) j : Nat) (j : Nat))) _ _ _
      rw [q.1, q.2]
      exact turnC (L := rhL) rfl (grabJ_part 0 (Part.refl _)) (noGd_all (L := rhL) rfl) hE rfl rfl
  · exact turnC (L := rhL) rfl (grabJ_part 2 (Part.refl _)) (noGd_all (L := rhL) rfl) (rhX (zpT f (deT (g 5)) 16) (g 1).num (g 2).num (zpN f (deT (g 5)) 16 : Nat) ((16 : Nat) : Int)) rfl rfl

/- The document's fences, contracts; what the fences' closures answer. -/
theorem rs_blk (c : Code) (hc : Try.f30.body = some c) : blks c = [(0, .loop (bodyOf Try.f30.body 0)), (1, blkAt ((Try.f30.body).getD .skip) 1)] := by
  rw [show c = (Try.f30.body).getD .skip by rw [hc]; rfl]
  kernel_rfl
theorem rh_blk (c : Code) (hc : Try.f32.body = some c) : blks c = [(0, .loop (bodyOf Try.f32.body 0)), (1, blkAt ((Try.f32.body).getD .skip) 1)] := by
  rw [show c = (Try.f32.body).getD .skip by rw [hc]; rfl]
  kernel_rfl
theorem rs_ov : ∀ c, Try.f30.body = some c → OvOk Try.prog (ovN 0 rsL rsShs (rsGo zpW)) c := fun c hc => ovN_ok rfl rsGo_ok fun x hx h => by
  rw [rs_blk c hc] at hx
  simp only [List.mem_cons, List.not_mem_nil, or_false] at hx
  rcases hx with rfl | rfl <;> first | rfl | (cases h; done)
theorem rh_ov : ∀ c, Try.f32.body = some c → OvOk Try.prog (ovN 0 rhL rhShs (rhGo zpW)) c := fun c hc => ovN_ok rfl rhGo_ok fun x hx h => by
  rw [rh_blk c hc] at hx
  simp only [List.mem_cons, List.not_mem_nil, or_false] at hx
  rcases hx with rfl | rfl <;> first | rfl | (cases h; done)
theorem rs_small (T : Tab) (s : Sta) (v : Bool) (p a : Int) : Small Try.prog 30 [.pt 0 [] tlbSh, staA s, .bl v, .it .i64 p, .it .i64 a] (mem1 (tlbA T)) (.it .i64 (zpN (rsP (sfVm s) v p a) T 16)) (mem1 (tlbA (zpT (rsP (sfVm s) v p a) T 16))) :=
  small_ok mix fair PC_ok okH0 (f := 30) ⟨Try.func30, of_decide_eq_true (by kernel_rfl)⟩ rs_ov (rsLaw zpW T s v p a) rfl rfl rfl rfl rfl rfl
theorem rh_small (T : Tab) (p a : Int) : Small Try.prog 32 [.pt 0 [] tlbSh, .it .i64 p, .it .i64 a] (mem1 (tlbA T)) (.it .i64 (zpN (rhP p a) T 16)) (mem1 (tlbA (zpT (rhP p a) T 16))) :=
  small_ok mix fair PC_ok okH0 (f := 32) ⟨Try.func32, of_decide_eq_true (by kernel_rfl)⟩ rh_ov (rhLaw zpW T p a) rfl rfl rfl rfl rfl rfl
def rsRow : MRow := rowB tlbSh [staSh, .bool, .int .i64, .int .i64] (fun g t => .it .i64 (zpN (rsP (sfVm (deSta (g 0))) (g 1).bool (g 2).num (g 3).num) (deT t) 16)) (fun g t => tlbA (zpT (rsP (sfVm (deSta (g 0))) (g 1).bool (g 2).num (g 3).num) (deT t) 16))
theorem rsRow_ok : MRowOk Try.prog 30 rsRow := rowB_ok rfl rfl (fun _ _ => rfl) (fun _ _ => rfl) fun g t => rs_small (deT t) (deSta (g 0)) (g 1).bool (g 2).num (g 3).num
def rhRow : MRow := rowB tlbSh [.int .i64, .int .i64] (fun g t => .it .i64 (zpN (rhP (g 0).num (g 1).num) (deT t) 16)) (fun g t => tlbA (zpT (rhP (g 0).num (g 1).num) (deT t) 16))
theorem rhRow_ok : MRowOk Try.prog 32 rhRow := rowB_ok rfl rfl (fun _ _ => rfl) (fun _ _ => rfl) fun g t => rh_small (deT t) (g 0).num (g 1).num

/- The closures. -/
def isF (n w : Int) : Bool := fence_is0 n w
def clPS (e : En) (p a : Int) : Bool := bif bif !e.v then isF e.page p else false then isF e.asid a else false
def clPH (e : En) (vm fr : Int) : Bool := bif bif e.v then isF e.vmid vm else false then isF e.guest fr else false
def clPG (e : En) (vm p a : Int) : Bool := bif bif bif e.v then iEq e.vmid vm else false then isF e.page p else false then isF e.asid a else false
def mem3 (t u v : AV) : Mem := (mem2 t u).add (.cells v true)
def L3s : Lq := { n := 1, n0 := 3, ts := [0], mv := [], ids := [(0, true), (1, true), (2, true)] }
theorem clS_E (e : En) (p a : Int) : evFn Try.prog okT PC (HH []) RW NOV 101 false Try.f41 [enA e, .pt 0 [] (.int .i64), .pt 1 [] (.int .i64)] (mem2 (.it .i64 p) (.it .i64 a)) (finQ L2s) = some (true, .tup [.it .i64 0, .bl (clPS e p a), .it .i64 p, .it .i64 a]) := by kernel_rfl
theorem clH_E (e : En) (p a : Int) : evFn Try.prog okT PC (HH []) RW NOV 101 false Try.f43 [enA e, .pt 0 [] (.int .i64), .pt 1 [] (.int .i64)] (mem2 (.it .i64 p) (.it .i64 a)) (finQ L2s) = some (true, .tup [.it .i64 0, .bl (clPH e p a), .it .i64 p, .it .i64 a]) := by kernel_rfl
theorem clG_E (e : En) (vm p a : Int) : evFn Try.prog okT PC (HH []) RW NOV 101 false Try.f46 [enA e, .pt 0 [] (.int .i64), .pt 1 [] (.int .i64), .pt 2 [] (.int .i64)] (mem3 (.it .i64 vm) (.it .i64 p) (.it .i64 a)) (finQ L3s) = some (true, .tup [.it .i64 0, .bl (clPG e vm p a), .it .i64 vm, .it .i64 p, .it .i64 a]) := by kernel_rfl

/- Contracts of the fences' closures; a callee that is entered with the meaning of its loops. -/

theorem cl2_fit {mm : Mem} {i j : Nat} {a : AV} {x y : Int} (ha : plain a = true) (hij : i ≠ j) (h1 : mm.get i = some (.cells (.it .i64 x) true)) (h2 : mm.get j = some (.cells (.it .i64 y) true)) :
    Fit mm [i, j] (mem2 (.it .i64 x) (.it .i64 y)) [a, .pt 0 [] (.int .i64), .pt 1 [] (.int .i64)] [a, .pt i [] (.int .i64), .pt j [] (.int .i64)] := by
  refine ⟨by simpa using hij, rfl, ⟨.inl ⟨ha, rfl⟩, .inr (.inl ⟨0, [], _, rfl, rfl, by simp⟩), .inr (.inl ⟨1, [], _, rfl, rfl, by simp⟩), trivial⟩, fun k hk => ?_, fun k b hb => ?_⟩
  · have : k = 0 ∨ k = 1 := by simp at hk; omega
    rcases this with rfl | rfl <;> exact ⟨_, rfl⟩
  · rcases mem2_get hb with ⟨rfl, rfl⟩ | ⟨rfl, rfl⟩
    · exact ⟨by simp, _, true, rfl, rfl, h1⟩
    · exact ⟨by simp, _, true, rfl, rfl, h2⟩
def cl2Row (V : En → Int → Int → Bool) : MRow := fun args mm => match args with
  | [a, .pt i [] r, .pt j [] r'] => bif a.shape.beq entSh && (r.beq (.int .i64) && (r'.beq (.int .i64) && !Nat.beq i j)) then
      (match mm.get i, mm.get j with
      | some (.cells (.it .i64 x) true), some (.cells (.it .i64 y) true) => some (none, [i, j], .bl (V (deA a) x y), mem2 (.it .i64 x) (.it .i64 y))
      | _, _ => none) else none
  | _ => none
theorem cl2Row_ok {f : FuncId} {V : En → Int → Int → Bool} (h : ∀ e x y, Small Try.prog f [enA e, .pt 0 [] (.int .i64), .pt 1 [] (.int .i64)] (mem2 (.it .i64 x) (.it .i64 y)) (.bl (V e x y)) (mem2 (.it .i64 x) (.it .i64 y))) : MRowOk Try.prog f (cl2Row V) := fun args mm c τ v m1 he hc => by
  unfold cl2Row at he
  split at he <;> try (cases he; done)
  rename_i a i r j r'
  cases hb : a.shape.beq entSh && (r.beq (.int .i64) && (r'.beq (.int .i64) && !Nat.beq i j)) with
  | false => rw [hb] at he; cases he
  | true =>
  rw [hb, cond_true] at he
  simp only [Bool.and_eq_true] at hb
  obtain ⟨b1, b2, b3, b4⟩ := hb
  have e2 := Sh.beq_eq _ _ b2
  have e3 := Sh.beq_eq _ _ b3
  subst e2; subst e3
  have hij : i ≠ j := fun e => by subst e; simp at b4
  split at he <;> try (cases he; done)
  rename_i x y h1 h2
  cases he
  have hs := Sh.beq_eq _ _ b1
  refine ⟨[a, .pt 0 [] (.int .i64), .pt 1 [] (.int .i64)], mem2 (.it .i64 x) (.it .i64 y), Small.of_wf fun w1 _ => ?_, cl2_fit (plain_shape a (by rw [hs]; rfl)) hij h1 h2, Nat.le_refl _, rfl, fun k b hb => ?_⟩
  · have := h (deA a) x y
    rw [← norm_en, norm_eq _ a w1.1 hs] at this
    exact this
  · rcases mem2_get hb with ⟨rfl, rfl⟩ | ⟨rfl, rfl⟩
    · exact ⟨by simp [mem2], _, true, rfl, rfl, fun h => by simp at h⟩
    · exact ⟨by simp [mem2], _, true, rfl, rfl, fun h => by simp at h⟩
theorem mem3_get {t u v : AV} {i : Nat} {b : Blk} (h : (mem3 t u v).get i = some b) : (i = 0 ∧ b = .cells t true) ∨ (i = 1 ∧ b = .cells u true) ∨ (i = 2 ∧ b = .cells v true) := by
  have h : ((mem2 t u).t.set (some (.cells v true)) 2).get i = some b := h
  rcases Tr.get_set _ _ 2 i b h with ⟨h1, h2⟩ | ⟨_, h2⟩
  · exact .inr (.inr ⟨h1, (Option.some.inj h2).symm⟩)
  · rcases mem2_get (show (mem2 t u).get i = some b from h2) with h | h
    · exact .inl h
    · exact .inr (.inl h)
theorem cl3_fit {mm : Mem} {i j l : Nat} {a : AV} {x y z : Int} (ha : plain a = true) (hij : i ≠ j) (hil : i ≠ l) (hjl : j ≠ l) (h1 : mm.get i = some (.cells (.it .i64 x) true)) (h2 : mm.get j = some (.cells (.it .i64 y) true)) (h3 : mm.get l = some (.cells (.it .i64 z) true)) :
    Fit mm [i, j, l] (mem3 (.it .i64 x) (.it .i64 y) (.it .i64 z)) [a, .pt 0 [] (.int .i64), .pt 1 [] (.int .i64), .pt 2 [] (.int .i64)] [a, .pt i [] (.int .i64), .pt j [] (.int .i64), .pt l [] (.int .i64)] := by
  refine ⟨by simp [hij, hil, hjl], rfl, ⟨.inl ⟨ha, rfl⟩, .inr (.inl ⟨0, [], _, rfl, rfl, by simp⟩), .inr (.inl ⟨1, [], _, rfl, rfl, by simp⟩), .inr (.inl ⟨2, [], _, rfl, rfl, by simp⟩), trivial⟩, fun k hk => ?_, fun k b hb => ?_⟩
  · have : k = 0 ∨ k = 1 ∨ k = 2 := by simp at hk; omega
    rcases this with rfl | rfl | rfl <;> exact ⟨_, rfl⟩
  · rcases mem3_get hb with ⟨rfl, rfl⟩ | ⟨rfl, rfl⟩ | ⟨rfl, rfl⟩
    · exact ⟨by simp, _, true, rfl, rfl, h1⟩
    · exact ⟨by simp, _, true, rfl, rfl, h2⟩
    · exact ⟨by simp, _, true, rfl, rfl, h3⟩
def cl3Row (V : En → Int → Int → Int → Bool) : MRow := fun args mm => match args with
  | [a, .pt i [] r, .pt j [] r', .pt l [] r''] => bif a.shape.beq entSh && (r.beq (.int .i64) && (r'.beq (.int .i64) && (r''.beq (.int .i64) && (!Nat.beq i j && (!Nat.beq i l && !Nat.beq j l))))) then
      (match mm.get i, mm.get j, mm.get l with
      | some (.cells (.it .i64 x) true), some (.cells (.it .i64 y) true), some (.cells (.it .i64 z) true) => some (none, [i, j, l], .bl (V (deA a) x y z), mem3 (.it .i64 x) (.it .i64 y) (.it .i64 z))
      | _, _, _ => none) else none
  | _ => none
theorem cl3Row_ok {f : FuncId} {V : En → Int → Int → Int → Bool} (h : ∀ e x y z, Small Try.prog f [enA e, .pt 0 [] (.int .i64), .pt 1 [] (.int .i64), .pt 2 [] (.int .i64)] (mem3 (.it .i64 x) (.it .i64 y) (.it .i64 z)) (.bl (V e x y z)) (mem3 (.it .i64 x) (.it .i64 y) (.it .i64 z))) : MRowOk Try.prog f (cl3Row V) := fun args mm c τ v m1 he hc => by
  unfold cl3Row at he
  split at he <;> try (cases he; done)
  rename_i a i r j r' l r''
  cases hb : a.shape.beq entSh && (r.beq (.int .i64) && (r'.beq (.int .i64) && (r''.beq (.int .i64) && (!Nat.beq i j && (!Nat.beq i l && !Nat.beq j l))))) with
  | false => rw [hb] at he; cases he
  | true =>
  rw [hb, cond_true] at he
  simp only [Bool.and_eq_true] at hb
  obtain ⟨b1, b2, b3, b4, b5, b6, b7⟩ := hb
  have e2 := Sh.beq_eq _ _ b2
  have e3 := Sh.beq_eq _ _ b3
  have e4 := Sh.beq_eq _ _ b4
  subst e2; subst e3; subst e4
  have hij : i ≠ j := fun e => by subst e; simp at b5
  have hil : i ≠ l := fun e => by subst e; simp at b6
  have hjl : j ≠ l := fun e => by subst e; simp at b7
  split at he <;> try (cases he; done)
  rename_i x y z h1 h2 h3
  cases he
  have hs := Sh.beq_eq _ _ b1
  refine ⟨[a, .pt 0 [] (.int .i64), .pt 1 [] (.int .i64), .pt 2 [] (.int .i64)], mem3 (.it .i64 x) (.it .i64 y) (.it .i64 z), Small.of_wf fun w1 _ => ?_, cl3_fit (plain_shape a (by rw [hs]; rfl)) hij hil hjl h1 h2 h3, Nat.le_refl _, rfl, fun k b hb => ?_⟩
  · have := h (deA a) x y z
    rw [← norm_en, norm_eq _ a w1.1 hs] at this
    exact this
  · rcases mem3_get hb with ⟨rfl, rfl⟩ | ⟨rfl, rfl⟩ | ⟨rfl, rfl⟩ <;> exact ⟨by simp [mem3, mem2, Mem.add], _, true, rfl, rfl, fun h => by simp at h⟩
theorem cl41_ok : MRowOk Try.prog 41 (cl2Row clPS) := cl2Row_ok fun e x y => small_ok mix fair PC_ok okH0 (f := 41) ⟨Try.func41, of_decide_eq_true (by kernel_rfl)⟩ (fun c _ => OvOk_none c) (clS_E e x y) rfl rfl rfl rfl rfl rfl
theorem cl43_ok : MRowOk Try.prog 43 (cl2Row clPH) := cl2Row_ok fun e x y => small_ok mix fair PC_ok okH0 (f := 43) ⟨Try.func43, of_decide_eq_true (by kernel_rfl)⟩ (fun c _ => OvOk_none c) (clH_E e x y) rfl rfl rfl rfl rfl rfl
theorem cl46_ok : MRowOk Try.prog 46 (cl3Row clPG) := cl3Row_ok fun e x y z => small_ok mix fair PC_ok okH0 (f := 46) ⟨Try.func46, of_decide_eq_true (by kernel_rfl)⟩ (fun c _ => OvOk_none c) (clG_E e x y z) rfl rfl rfl rfl rfl rfl

/-- A callee that is entered with the meaning of its loops. -/
noncomputable def hIn (pc : Pcs) (h' : Hd) (ov : Ov) (f0 : FuncId) (fn0 : Func) (h : Hd) : Hd := fun f args m k => bif Nat.beq f f0 then evFn Try.prog okT pc h' RW ov 101 false fn0 args m k else h f args m k
theorem hIn_ok {pc : Pcs} (hpc : PSound Try.prog pc) {h' : Hd} (hh' : HSound Try.prog h') {ov : Ov} {f0 : FuncId} {fn0 : Func} (hp : Plain Try.prog f0 fn0) (ho : ∀ c, fn0.body = some c → OvOk Try.prog ov c) {h : Hd} (hh : HSound Try.prog h) : HSound Try.prog (hIn pc h' ov f0 fn0 h) := fun f args m k r he hr => by
  unfold hIn at he
  cases hb : Nat.beq f f0 with
  | false => rw [hb, cond_false] at he; exact hh f args m k r he hr
  | true =>
    rw [hb, cond_true] at he
    have := Nat.eq_of_beq_eq_true hb
    subst this
    exact evFn_ok mix fair hpc hh' hp ho he hr

/- The fences' loop over all entries, in the memory of each of its callers. Printed by a program of the prover's own (wip/a/mkx.py). -/

structure PrY where
  ps : En → Int → Int → Bool
  ph : En → Int → Int → Bool
  pg : En → Int → Int → Int → Bool
noncomputable def MTd (Q : Ops) (Y : PrY) : List (FuncId × MRow) := (41, cl2Row Y.ps) :: (43, cl2Row Y.ph) :: (46, cl3Row Y.pg) :: MTq Q
def prY : PrY := ⟨clPS, clPH, clPG⟩
theorem okHd : HSound Try.prog (HH2 (MTd ops prY) (MTq2 ops)) := HH2_ok (tb := MTd ops prY) ⟨cl41_ok, cl43_ok, cl46_ok, MTq_ok⟩ MTq2_ok
theorem turnD {b : Code} {L : Lq} (hL : L.wf = true) {K : Kc} (hK : Part L K) {fr : Fr} {m : Mem} (hg0 : NoGd fr) {c : Int} {r : List AV} {g : Bool}
    (he : evC Try.prog okT PC (HH2 (MTd ops prY) (MTq2 ops)) RW NOV 101 false b fr m K = some (g, .tup (.it .i64 c :: r))) (hg : g = true) (hr : L.ok r = true) : Turn Try.prog L.n0 b fr m c (L.F r) (L.M r) :=
  turnK_ok mix fair PC_ok okHd (OvOk_none _) hL hK hg0 he hg hr
/-- A fence's fold: what is left, how many went. -/
def dpT (f : En → Bool) (T E : Tab) : Nat → Tab
  | 0 => T
  | j + 1 => bif f (E j) then dropF (dpT f T E j) (E j) else dpT f T E j
def dpN (f : En → Bool) (E : Tab) : Nat → Nat
  | 0 => 0
  | j + 1 => bif f (E j) then dpN f E j + 1 else dpN f E j
theorem dpN_le (f : En → Bool) (E : Tab) : ∀ j, dpN f E j ≤ j
  | 0 => Nat.le_refl _
  | j + 1 => by
    unfold dpN
    have := dpN_le f E j
    cases f (E j) <;> simp <;> omega
theorem dp_hit (f : En → Bool) (T E : Tab) (j : Nat) (h : f (E j) = true) : dpT f T E (j + 1) = dropF (dpT f T E j) (E j) ∧ dpN f E (j + 1) = dpN f E j + 1 := by
  constructor
  · conv => lhs; unfold dpT
    rw [h]; rfl
  · conv => lhs; unfold dpN
    rw [h]; rfl
theorem dp_keep (f : En → Bool) (T E : Tab) (j : Nat) (h : f (E j) = false) : dpT f T E (j + 1) = dpT f T E j ∧ dpN f E (j + 1) = dpN f E j := by
  constructor
  · conv => lhs; unfold dpT
    rw [h]; rfl
  · conv => lhs; unfold dpN
    rw [h]; rfl
structure DpW where
  t : (En → Bool) → Tab → Tab → Nat → Tab
  n : (En → Bool) → Tab → Nat → Int
def dpW : DpW := ⟨dpT, fun f E n => dpN f E n⟩
def isPi (id : Nat) : AV → Bool
  | .pt i [] r => Nat.beq i id && r.beq (.int .i64)
  | _ => false
theorem isPi_ok {id : Nat} {a : AV} (h : isPi id a = true) : a = .pt id [] (.int .i64) := by
  unfold isPi at h
  split at h <;> try (cases h; done)
  simp only [Bool.and_eq_true, Nat.beq_eq] at h
  rw [h.1, Sh.beq_eq _ _ h.2]
def isFn2 (f i j : Nat) : AV → Bool
  | .fn f' [a, b] => Nat.beq f' f && (isPi i a && isPi j b)
  | _ => false
theorem isFn2_ok {f i j : Nat} {a : AV} (h : isFn2 f i j a = true) : a = .fn f [.pt i [] (.int .i64), .pt j [] (.int .i64)] := by
  unfold isFn2 at h
  split at h <;> try (cases h; done)
  simp only [Bool.and_eq_true, Nat.beq_eq] at h
  rw [h.1, isPi_ok h.2.1, isPi_ok h.2.2]
def isFn3 (f i j l : Nat) : AV → Bool
  | .fn f' [a, b, c] => Nat.beq f' f && (isPi i a && (isPi j b && isPi l c))
  | _ => false
theorem isFn3_ok {f i j l : Nat} {a : AV} (h : isFn3 f i j l a = true) : a = .fn f [.pt i [] (.int .i64), .pt j [] (.int .i64), .pt l [] (.int .i64)] := by
  unfold isFn3 at h
  split at h <;> try (cases h; done)
  simp only [Bool.and_eq_true, Nat.beq_eq] at h
  rw [h.1, isPi_ok h.2.1, isPi_ok h.2.2.1, isPi_ok h.2.2.2]
theorem dp_blk (c : Code) (hc : Try.f40.body = some c) : blks c = [(0, .loop (bodyOf Try.f40.body 0)), (1, blkAt ((Try.f40.body).getD .skip) 1)] := by
  rw [show c = (Try.f40.body).getD .skip by rw [hc]; rfl]
  kernel_rfl

def dpSL : Lq := { n := 26, n0 := 5, ts := [0, 1, 9, 10, 11, 5], mv := [], ids := [(0, true), (2, true), (3, true), (4, true)] }
def dpSS (N N' : Nat) (T E : Tab) (x y len i n : Int) : List AV := [.pt 0 [] tlbSh, .fn 41 [.pt 2 [] (.int .i64), .pt 3 [] (.int .i64)], .sl 4 [] 0 N true, .it .i64 len, .it .i64 i, .it .i64 n, tlbA T, .it .i64 x, .it .i64 y, elA N' E]
theorem dpSA (Q : Ops) (Y : PrY) (N N' : Nat) (T E : Tab) (x y len i n : Int) : evC Try.prog okT PC (HH2 (MTd Q Y) (MTq2 Q)) RW NOV 101 false (bodyOf Try.f40.body 0) (dpSL.F (dpSS N N' T E x y len i n)) (dpSL.M (dpSS N N' T E x y len i n)) (grabJ 0 (grabQ dpSL)) =
    some (Om.land (iLt i len) (Om.land (iIn i N) (Om.pick (!(fun e => Y.ps e x y) (E (i.toNat + 0))) (true, .tup (.it .i64 0 :: dpSS N N' T E x y len (iAdd .i64 i 1) n))
      (true, .tup (.it .i64 0 :: dpSS N N' (Q.dr T (E (i.toNat + 0))) E x y len (iAdd .i64 i 1) (iAdd .i64 n 1)))))) := by kernel_rfl
theorem dpSX (Q : Ops) (Y : PrY) (N N' : Nat) (T E : Tab) (x y len i n : Int) : evC Try.prog okT PC (HH2 (MTd Q Y) (MTq2 Q)) RW NOV 101 false (bodyOf Try.f40.body 0) (dpSL.F (dpSS N N' T E x y len i n)) (dpSL.M (dpSS N N' T E x y len i n)) (grabJ 2 (grabQ dpSL)) =
    some (!iLt i len && true, .tup (.it .i64 2 :: dpSS N N' T E x y len i n)) := by kernel_rfl
def dpSTs : List Tm := [.fx .ref, .fx .ref, .fx .ref, .fx (.int .i64), .fx (.int .i64), .fx (.int .i64), .fx tlbSh, .fx (.int .i64), .fx (.int .i64), .ar entSh]
def dpSE (Y : PrY) (W : DpW) (g : Nat → AV) : List AV := dpSS (lenS (g 2)) (lenA (g 9)) (W.t (fun e => Y.ps e (g 7).num (g 8).num) (deT (g 6)) (arT (g 9)) (lenS (g 2))) (arT (g 9)) ((g 7).num) ((g 8).num) (lenS (g 2) : Nat) (lenS (g 2) : Nat) (W.n (fun e => Y.ps e (g 7).num (g 8).num) (arT (g 9)) (lenS (g 2)))
def dpSGo (Y : PrY) (W : DpW) : (Nat → AV) → Kc → Option Out := goJ (fun g => isPt 0 tlbSh (g 0) && (isFn2 41 2 3 (g 1) && isSlq 4 true (g 2))) (fun g => iEq (g 4).num 0 && (iEq (g 5).num 0 && (iEq (g 3).num (lenS (g 2)) && iLt (lenS (g 2)) 1000000))) .normal (fun g => dpSL.F (dpSE Y W g)) (fun g => dpSL.M (dpSE Y W g))
theorem dpSGo_ok : GoesT Try.prog 0 (.loop (bodyOf Try.f40.body 0)) dpSL dpSTs (dpSGo prY dpW) := goT_ok fun g h1 h2 => by
  simp only [Bool.and_eq_true] at h1 h2
  obtain ⟨c0, c1, c2⟩ := h1
  obtain ⟨d1, d2, d3, d4⟩ := h2
  refine ⟨noGd_all (L := dpSL) rfl, fun fr m hm hb => ?_⟩
  have hst : norms (tmS g dpSTs 0) 0 g = dpSS (lenS (g 2)) (lenA (g 9)) (deT (g 6)) (arT (g 9)) ((g 7).num) ((g 8).num) (lenS (g 2) : Nat) 0 0 := by
    have : norms (tmS g dpSTs 0) 0 g = [g 0, g 1, g 2, .it .i64 (g 3).num, .it .i64 (g 4).num, .it .i64 (g 5).num, tlbA (deT (g 6)), .it .i64 (g 7).num, .it .i64 (g 8).num, elA (lenA (g 9)) (arT (g 9))] := rfl
    rw [this, iEq_true.1 d1, iEq_true.1 d2, iEq_true.1 d3, isPt_ok c0, isFn2_ok c1]
    unfold dpSS
    rw [← isSlq_ok c2]
  rw [hst] at hb
  have hN := iLt_true.1 d4
  unfold dpSE
  generalize hf : (fun e => prY.ps e (g 7).num (g 8).num) = f
  refine loopJ_block (F := fun j => dpSL.F (dpSS (lenS (g 2)) (lenA (g 9)) (dpT f (deT (g 6)) (arT (g 9)) j) (arT (g 9)) ((g 7).num) ((g 8).num) (lenS (g 2) : Nat) (j : Nat) (dpN f (arT (g 9)) j : Nat))) (M := fun j => dpSL.M (dpSS (lenS (g 2)) (lenA (g 9)) (dpT f (deT (g 6)) (arT (g 9)) j) (arT (g 9)) ((g 7).num) ((g 8).num) (lenS (g 2) : Nat) (j : Nat) (dpN f (arT (g 9)) j : Nat))) (n := lenS (g 2)) (c := 2)
    (fun j hj => ?_) ?_ (by decide) hm hb (e := .exit 0) rfl
  · have hE := dpSA ops prY (lenS (g 2)) (lenA (g 9)) (dpT f (deT (g 6)) (arT (g 9)) j) (arT (g 9)) ((g 7).num) ((g 8).num) (lenS (g 2) : Nat) ((j : Nat) : Int) (dpN f (arT (g 9)) j : Nat)
    have hle := dpN_le f (arT (g 9)) j
    rw [iAdd_b j (by omega), iAdd_b (dpN f (arT (g 9)) j) (by omega), iLt_true.2 (show (j : Int) < (lenS (g 2) : Nat) by omega), iIn_true.2 (show 0 ≤ (j : Int) ∧ (j : Int) < (lenS (g 2) : Nat) by omega), hf, Nat.add_zero, Int.toNat_natCast] at hE
    cases hc : f (arT (g 9) j) with
    | true =>
      rw [hc, show (!true) = false from rfl, Om.pick_f, show ops.dr (dpT f (deT (g 6)) (arT (g 9)) j) (arT (g 9) j) = dpT f (deT (g 6)) (arT (g 9)) (j + 1) from (dp_hit f _ _ j hc).1.symm, ← (dp_hit f (deT (g 6)) (arT (g 9)) j hc).2] at hE
      exact turnD (L := dpSL) rfl (grabJ_part 0 (Part.refl _)) (noGd_all (L := dpSL) rfl) hE rfl rfl
    | false =>
      rw [hc, show (!false) = true from rfl, Om.pick_t] at hE
      rw [(dp_keep f (deT (g 6)) (arT (g 9)) j hc).1, (dp_keep f (deT (g 6)) (arT (g 9)) j hc).2]
      exact turnD (L := dpSL) rfl (grabJ_part 0 (Part.refl _)) (noGd_all (L := dpSL) rfl) hE rfl rfl
  · exact turnD (L := dpSL) rfl (grabJ_part 2 (Part.refl _)) (noGd_all (L := dpSL) rfl) (dpSX ops prY (lenS (g 2)) (lenA (g 9)) (dpT f (deT (g 6)) (arT (g 9)) (lenS (g 2))) (arT (g 9)) ((g 7).num) ((g 8).num) (lenS (g 2) : Nat) (lenS (g 2) : Nat) (dpN f (arT (g 9)) (lenS (g 2)) : Nat)) (by rw [iLt_false.2 (Int.le_refl _)]; rfl) rfl
theorem dpS_ov : ∀ c, Try.f40.body = some c → OvOk Try.prog (ovT 0 dpSL dpSTs (dpSGo prY dpW)) c := fun c hc => ovT_ok rfl dpSGo_ok fun x hx h => by
  rw [dp_blk c hc] at hx
  simp only [List.mem_cons, List.not_mem_nil, or_false] at hx
  rcases hx with rfl | rfl <;> first | rfl | (cases h; done)

def dpHL : Lq := { n := 26, n0 := 5, ts := [0, 1, 9, 10, 11, 5], mv := [], ids := [(0, true), (2, true), (3, true), (4, true)] }
def dpHS (N N' : Nat) (T E : Tab) (x y len i n : Int) : List AV := [.pt 0 [] tlbSh, .fn 43 [.pt 3 [] (.int .i64), .pt 2 [] (.int .i64)], .sl 4 [] 0 N true, .it .i64 len, .it .i64 i, .it .i64 n, tlbA T, .it .i64 x, .it .i64 y, elA N' E]
theorem dpHA (Q : Ops) (Y : PrY) (N N' : Nat) (T E : Tab) (x y len i n : Int) : evC Try.prog okT PC (HH2 (MTd Q Y) (MTq2 Q)) RW NOV 101 false (bodyOf Try.f40.body 0) (dpHL.F (dpHS N N' T E x y len i n)) (dpHL.M (dpHS N N' T E x y len i n)) (grabJ 0 (grabQ dpHL)) =
    some (Om.land (iLt i len) (Om.land (iIn i N) (Om.pick (!(fun e => Y.ph e y x) (E (i.toNat + 0))) (true, .tup (.it .i64 0 :: dpHS N N' T E x y len (iAdd .i64 i 1) n))
      (true, .tup (.it .i64 0 :: dpHS N N' (Q.dr T (E (i.toNat + 0))) E x y len (iAdd .i64 i 1) (iAdd .i64 n 1)))))) := by kernel_rfl
theorem dpHX (Q : Ops) (Y : PrY) (N N' : Nat) (T E : Tab) (x y len i n : Int) : evC Try.prog okT PC (HH2 (MTd Q Y) (MTq2 Q)) RW NOV 101 false (bodyOf Try.f40.body 0) (dpHL.F (dpHS N N' T E x y len i n)) (dpHL.M (dpHS N N' T E x y len i n)) (grabJ 2 (grabQ dpHL)) =
    some (!iLt i len && true, .tup (.it .i64 2 :: dpHS N N' T E x y len i n)) := by kernel_rfl
def dpHTs : List Tm := [.fx .ref, .fx .ref, .fx .ref, .fx (.int .i64), .fx (.int .i64), .fx (.int .i64), .fx tlbSh, .fx (.int .i64), .fx (.int .i64), .ar entSh]
def dpHE (Y : PrY) (W : DpW) (g : Nat → AV) : List AV := dpHS (lenS (g 2)) (lenA (g 9)) (W.t (fun e => Y.ph e (g 8).num (g 7).num) (deT (g 6)) (arT (g 9)) (lenS (g 2))) (arT (g 9)) ((g 7).num) ((g 8).num) (lenS (g 2) : Nat) (lenS (g 2) : Nat) (W.n (fun e => Y.ph e (g 8).num (g 7).num) (arT (g 9)) (lenS (g 2)))
def dpHGo (Y : PrY) (W : DpW) : (Nat → AV) → Kc → Option Out := goJ (fun g => isPt 0 tlbSh (g 0) && (isFn2 43 3 2 (g 1) && isSlq 4 true (g 2))) (fun g => iEq (g 4).num 0 && (iEq (g 5).num 0 && (iEq (g 3).num (lenS (g 2)) && iLt (lenS (g 2)) 1000000))) .normal (fun g => dpHL.F (dpHE Y W g)) (fun g => dpHL.M (dpHE Y W g))
theorem dpHGo_ok : GoesT Try.prog 0 (.loop (bodyOf Try.f40.body 0)) dpHL dpHTs (dpHGo prY dpW) := goT_ok fun g h1 h2 => by
  simp only [Bool.and_eq_true] at h1 h2
  obtain ⟨c0, c1, c2⟩ := h1
  obtain ⟨d1, d2, d3, d4⟩ := h2
  refine ⟨noGd_all (L := dpHL) rfl, fun fr m hm hb => ?_⟩
  have hst : norms (tmS g dpHTs 0) 0 g = dpHS (lenS (g 2)) (lenA (g 9)) (deT (g 6)) (arT (g 9)) ((g 7).num) ((g 8).num) (lenS (g 2) : Nat) 0 0 := by
    have : norms (tmS g dpHTs 0) 0 g = [g 0, g 1, g 2, .it .i64 (g 3).num, .it .i64 (g 4).num, .it .i64 (g 5).num, tlbA (deT (g 6)), .it .i64 (g 7).num, .it .i64 (g 8).num, elA (lenA (g 9)) (arT (g 9))] := rfl
    rw [this, iEq_true.1 d1, iEq_true.1 d2, iEq_true.1 d3, isPt_ok c0, isFn2_ok c1]
    unfold dpHS
    rw [← isSlq_ok c2]
  rw [hst] at hb
  have hN := iLt_true.1 d4
  unfold dpHE
  generalize hf : (fun e => prY.ph e (g 8).num (g 7).num) = f
  refine loopJ_block (F := fun j => dpHL.F (dpHS (lenS (g 2)) (lenA (g 9)) (dpT f (deT (g 6)) (arT (g 9)) j) (arT (g 9)) ((g 7).num) ((g 8).num) (lenS (g 2) : Nat) (j : Nat) (dpN f (arT (g 9)) j : Nat))) (M := fun j => dpHL.M (dpHS (lenS (g 2)) (lenA (g 9)) (dpT f (deT (g 6)) (arT (g 9)) j) (arT (g 9)) ((g 7).num) ((g 8).num) (lenS (g 2) : Nat) (j : Nat) (dpN f (arT (g 9)) j : Nat))) (n := lenS (g 2)) (c := 2)
    (fun j hj => ?_) ?_ (by decide) hm hb (e := .exit 0) rfl
  · have hE := dpHA ops prY (lenS (g 2)) (lenA (g 9)) (dpT f (deT (g 6)) (arT (g 9)) j) (arT (g 9)) ((g 7).num) ((g 8).num) (lenS (g 2) : Nat) ((j : Nat) : Int) (dpN f (arT (g 9)) j : Nat)
    have hle := dpN_le f (arT (g 9)) j
    rw [iAdd_b j (by omega), iAdd_b (dpN f (arT (g 9)) j) (by omega), iLt_true.2 (show (j : Int) < (lenS (g 2) : Nat) by omega), iIn_true.2 (show 0 ≤ (j : Int) ∧ (j : Int) < (lenS (g 2) : Nat) by omega), hf, Nat.add_zero, Int.toNat_natCast] at hE
    cases hc : f (arT (g 9) j) with
    | true =>
      rw [hc, show (!true) = false from rfl, Om.pick_f, show ops.dr (dpT f (deT (g 6)) (arT (g 9)) j) (arT (g 9) j) = dpT f (deT (g 6)) (arT (g 9)) (j + 1) from (dp_hit f _ _ j hc).1.symm, ← (dp_hit f (deT (g 6)) (arT (g 9)) j hc).2] at hE
      exact turnD (L := dpHL) rfl (grabJ_part 0 (Part.refl _)) (noGd_all (L := dpHL) rfl) hE rfl rfl
    | false =>
      rw [hc, show (!false) = true from rfl, Om.pick_t] at hE
      rw [(dp_keep f (deT (g 6)) (arT (g 9)) j hc).1, (dp_keep f (deT (g 6)) (arT (g 9)) j hc).2]
      exact turnD (L := dpHL) rfl (grabJ_part 0 (Part.refl _)) (noGd_all (L := dpHL) rfl) hE rfl rfl
  · exact turnD (L := dpHL) rfl (grabJ_part 2 (Part.refl _)) (noGd_all (L := dpHL) rfl) (dpHX ops prY (lenS (g 2)) (lenA (g 9)) (dpT f (deT (g 6)) (arT (g 9)) (lenS (g 2))) (arT (g 9)) ((g 7).num) ((g 8).num) (lenS (g 2) : Nat) (lenS (g 2) : Nat) (dpN f (arT (g 9)) (lenS (g 2)) : Nat)) (by rw [iLt_false.2 (Int.le_refl _)]; rfl) rfl
theorem dpH_ov : ∀ c, Try.f40.body = some c → OvOk Try.prog (ovT 0 dpHL dpHTs (dpHGo prY dpW)) c := fun c hc => ovT_ok rfl dpHGo_ok fun x hx h => by
  rw [dp_blk c hc] at hx
  simp only [List.mem_cons, List.not_mem_nil, or_false] at hx
  rcases hx with rfl | rfl <;> first | rfl | (cases h; done)

def dpGL : Lq := { n := 26, n0 := 6, ts := [0, 1, 9, 10, 11, 5], mv := [], ids := [(0, true), (2, true), (3, true), (4, true), (5, true)] }
def dpGS (N N' : Nat) (T E : Tab) (x y z len i n : Int) : List AV := [.pt 0 [] tlbSh, .fn 46 [.pt 4 [] (.int .i64), .pt 2 [] (.int .i64), .pt 3 [] (.int .i64)], .sl 5 [] 0 N true, .it .i64 len, .it .i64 i, .it .i64 n, tlbA T, .it .i64 x, .it .i64 y, .it .i64 z, elA N' E]
theorem dpGA (Q : Ops) (Y : PrY) (N N' : Nat) (T E : Tab) (x y z len i n : Int) : evC Try.prog okT PC (HH2 (MTd Q Y) (MTq2 Q)) RW NOV 101 false (bodyOf Try.f40.body 0) (dpGL.F (dpGS N N' T E x y z len i n)) (dpGL.M (dpGS N N' T E x y z len i n)) (grabJ 0 (grabQ dpGL)) =
    some (Om.land (iLt i len) (Om.land (iIn i N) (Om.pick (!(fun e => Y.pg e z x y) (E (i.toNat + 0))) (true, .tup (.it .i64 0 :: dpGS N N' T E x y z len (iAdd .i64 i 1) n))
      (true, .tup (.it .i64 0 :: dpGS N N' (Q.dr T (E (i.toNat + 0))) E x y z len (iAdd .i64 i 1) (iAdd .i64 n 1)))))) := by kernel_rfl
theorem dpGX (Q : Ops) (Y : PrY) (N N' : Nat) (T E : Tab) (x y z len i n : Int) : evC Try.prog okT PC (HH2 (MTd Q Y) (MTq2 Q)) RW NOV 101 false (bodyOf Try.f40.body 0) (dpGL.F (dpGS N N' T E x y z len i n)) (dpGL.M (dpGS N N' T E x y z len i n)) (grabJ 2 (grabQ dpGL)) =
    some (!iLt i len && true, .tup (.it .i64 2 :: dpGS N N' T E x y z len i n)) := by kernel_rfl
def dpGTs : List Tm := [.fx .ref, .fx .ref, .fx .ref, .fx (.int .i64), .fx (.int .i64), .fx (.int .i64), .fx tlbSh, .fx (.int .i64), .fx (.int .i64), .fx (.int .i64), .ar entSh]
def dpGE (Y : PrY) (W : DpW) (g : Nat → AV) : List AV := dpGS (lenS (g 2)) (lenA (g 10)) (W.t (fun e => Y.pg e (g 9).num (g 7).num (g 8).num) (deT (g 6)) (arT (g 10)) (lenS (g 2))) (arT (g 10)) ((g 7).num) ((g 8).num) ((g 9).num) (lenS (g 2) : Nat) (lenS (g 2) : Nat) (W.n (fun e => Y.pg e (g 9).num (g 7).num (g 8).num) (arT (g 10)) (lenS (g 2)))
def dpGGo (Y : PrY) (W : DpW) : (Nat → AV) → Kc → Option Out := goJ (fun g => isPt 0 tlbSh (g 0) && (isFn3 46 4 2 3 (g 1) && isSlq 5 true (g 2))) (fun g => iEq (g 4).num 0 && (iEq (g 5).num 0 && (iEq (g 3).num (lenS (g 2)) && iLt (lenS (g 2)) 1000000))) .normal (fun g => dpGL.F (dpGE Y W g)) (fun g => dpGL.M (dpGE Y W g))
theorem dpGGo_ok : GoesT Try.prog 0 (.loop (bodyOf Try.f40.body 0)) dpGL dpGTs (dpGGo prY dpW) := goT_ok fun g h1 h2 => by
  simp only [Bool.and_eq_true] at h1 h2
  obtain ⟨c0, c1, c2⟩ := h1
  obtain ⟨d1, d2, d3, d4⟩ := h2
  refine ⟨noGd_all (L := dpGL) rfl, fun fr m hm hb => ?_⟩
  have hst : norms (tmS g dpGTs 0) 0 g = dpGS (lenS (g 2)) (lenA (g 10)) (deT (g 6)) (arT (g 10)) ((g 7).num) ((g 8).num) ((g 9).num) (lenS (g 2) : Nat) 0 0 := by
    have : norms (tmS g dpGTs 0) 0 g = [g 0, g 1, g 2, .it .i64 (g 3).num, .it .i64 (g 4).num, .it .i64 (g 5).num, tlbA (deT (g 6)), .it .i64 (g 7).num, .it .i64 (g 8).num, .it .i64 (g 9).num, elA (lenA (g 10)) (arT (g 10))] := rfl
    rw [this, iEq_true.1 d1, iEq_true.1 d2, iEq_true.1 d3, isPt_ok c0, isFn3_ok c1]
    unfold dpGS
    rw [← isSlq_ok c2]
  rw [hst] at hb
  have hN := iLt_true.1 d4
  unfold dpGE
  generalize hf : (fun e => prY.pg e (g 9).num (g 7).num (g 8).num) = f
  refine loopJ_block (F := fun j => dpGL.F (dpGS (lenS (g 2)) (lenA (g 10)) (dpT f (deT (g 6)) (arT (g 10)) j) (arT (g 10)) ((g 7).num) ((g 8).num) ((g 9).num) (lenS (g 2) : Nat) (j : Nat) (dpN f (arT (g 10)) j : Nat))) (M := fun j => dpGL.M (dpGS (lenS (g 2)) (lenA (g 10)) (dpT f (deT (g 6)) (arT (g 10)) j) (arT (g 10)) ((g 7).num) ((g 8).num) ((g 9).num) (lenS (g 2) : Nat) (j : Nat) (dpN f (arT (g 10)) j : Nat))) (n := lenS (g 2)) (c := 2)
    (fun j hj => ?_) ?_ (by decide) hm hb (e := .exit 0) rfl
  · have hE := dpGA ops prY (lenS (g 2)) (lenA (g 10)) (dpT f (deT (g 6)) (arT (g 10)) j) (arT (g 10)) ((g 7).num) ((g 8).num) ((g 9).num) (lenS (g 2) : Nat) ((j : Nat) : Int) (dpN f (arT (g 10)) j : Nat)
    have hle := dpN_le f (arT (g 10)) j
    rw [iAdd_b j (by omega), iAdd_b (dpN f (arT (g 10)) j) (by omega), iLt_true.2 (show (j : Int) < (lenS (g 2) : Nat) by omega), iIn_true.2 (show 0 ≤ (j : Int) ∧ (j : Int) < (lenS (g 2) : Nat) by omega), hf, Nat.add_zero, Int.toNat_natCast] at hE
    cases hc : f (arT (g 10) j) with
    | true =>
      rw [hc, show (!true) = false from rfl, Om.pick_f, show ops.dr (dpT f (deT (g 6)) (arT (g 10)) j) (arT (g 10) j) = dpT f (deT (g 6)) (arT (g 10)) (j + 1) from (dp_hit f _ _ j hc).1.symm, ← (dp_hit f (deT (g 6)) (arT (g 10)) j hc).2] at hE
      exact turnD (L := dpGL) rfl (grabJ_part 0 (Part.refl _)) (noGd_all (L := dpGL) rfl) hE rfl rfl
    | false =>
      rw [hc, show (!false) = true from rfl, Om.pick_t] at hE
      rw [(dp_keep f (deT (g 6)) (arT (g 10)) j hc).1, (dp_keep f (deT (g 6)) (arT (g 10)) j hc).2]
      exact turnD (L := dpGL) rfl (grabJ_part 0 (Part.refl _)) (noGd_all (L := dpGL) rfl) hE rfl rfl
  · exact turnD (L := dpGL) rfl (grabJ_part 2 (Part.refl _)) (noGd_all (L := dpGL) rfl) (dpGX ops prY (lenS (g 2)) (lenA (g 10)) (dpT f (deT (g 6)) (arT (g 10)) (lenS (g 2))) (arT (g 10)) ((g 7).num) ((g 8).num) ((g 9).num) (lenS (g 2) : Nat) (lenS (g 2) : Nat) (dpN f (arT (g 10)) (lenS (g 2)) : Nat)) (by rw [iLt_false.2 (Int.le_refl _)]; rfl) rfl
theorem dpG_ov : ∀ c, Try.f40.body = some c → OvOk Try.prog (ovT 0 dpGL dpGTs (dpGGo prY dpW)) c := fun c hc => ovT_ok rfl dpGGo_ok fun x hx h => by
  rw [dp_blk c hc] at hx
  simp only [List.mem_cons, List.not_mem_nil, or_false] at hx
  rcases hx with rfl | rfl <;> first | rfl | (cases h; done)

/- The program's fences: contracts. -/

/-- What a fence does: how many go, what is left. -/
def fnN (f : En → Bool) (T : Tab) : Nat := dpN f (allE T) (allN T)
def fnT (f : En → Bool) (T : Tab) : Tab := dpT f T (allE T) (allN T)
def vmF (s : Sta) : Int := fence_vmid0 s.X s.pc s.lv s.V s.C s.dn
noncomputable def hdG (Q : Ops) (Y : PrY) (W : DpW) : Hd := hIn PC (HH2 (MTd Q Y) (MTq2 Q)) (ovT 0 dpGL dpGTs (dpGGo Y W)) 40 Try.f40 (HH2 (MTd Q Y) (MTq2 Q))
def okN (n : Nat) : Bool := iEq 0 0 && (iEq 0 0 && (iEq n n && iLt n 1000000))
theorem guE (Q : Ops) (Y : PrY) (W : DpW) (T : Tab) (s : Sta) (p a : Int) : evFn Try.prog okT PC (hdG Q Y W) RW NOV 101 false Try.f31 [.pt 0 [] tlbSh, staA s, .it .i64 p, .it .i64 a] (mem1 (tlbA T)) (finQ L1) =
    some (Om.pick (Nat.beq (Q.n T) 0) (true, .tup [.it .i64 0, .it .i64 0, tlbA T])
      (okN (Q.n T) && true, .tup [.it .i64 0, .it .i64 (W.n (fun e => Y.pg e (vmF s) p a) (Q.el T) (Q.n T)), tlbA (W.t (fun e => Y.pg e (vmF s) p a) T (Q.el T) (Q.n T))])) := by kernel_rfl
noncomputable def hdH (Q : Ops) (Y : PrY) (W : DpW) : Hd := hIn PC (HH2 (MTd Q Y) (MTq2 Q)) (ovT 0 dpHL dpHTs (dpHGo Y W)) 40 Try.f40 (HH2 (MTd Q Y) (MTq2 Q))
theorem hoE (Q : Ops) (Y : PrY) (W : DpW) (T : Tab) (s : Sta) (p a : Int) : evFn Try.prog okT PC (hdH Q Y W) RW NOV 101 false Try.f28 [.pt 0 [] tlbSh, staA s, .it .i64 p, .it .i64 a] (mem1 (tlbA T)) (finQ L1) =
    some (Om.pick (Nat.beq (Q.n T) 0) (true, .tup [.it .i64 0, .it .i64 0, tlbA T])
      (okN (Q.n T) && true, .tup [.it .i64 0, .it .i64 (W.n (fun e => Y.ph e a p) (Q.el T) (Q.n T)), tlbA (W.t (fun e => Y.ph e a p) T (Q.el T) (Q.n T))])) := by kernel_rfl
structure GuY where
  n : Sta → Int → Int → Tab → Int
  t : Sta → Int → Int → Tab → Tab
noncomputable def MTe (Q : Ops) (Y : PrY) (G : GuY) : List (FuncId × MRow) := (31, rowB tlbSh [staSh, .int .i64, .int .i64] (fun g t => .it .i64 (G.n (deSta (g 0)) (g 1).num (g 2).num (deT t))) (fun g t => tlbA (G.t (deSta (g 0)) (g 1).num (g 2).num (deT t)))) :: MTd Q Y
noncomputable def hdS (Q : Ops) (Y : PrY) (G : GuY) (W : DpW) : Hd := hIn PC (HH2 (MTd Q Y) (MTq2 Q)) (ovT 0 dpSL dpSTs (dpSGo Y W)) 40 Try.f40 (HH2 (MTe Q Y G) (MTq2 Q))
theorem sfE (Q : Ops) (Y : PrY) (G : GuY) (W : DpW) (T : Tab) (s : Sta) (p a : Int) : evFn Try.prog okT PC (hdS Q Y G W) RW NOV 101 false Try.f26 [.pt 0 [] tlbSh, staA s, .it .i64 p, .it .i64 a] (mem1 (tlbA T)) (finQ L1) =
    some (Om.pick s.V (true, .tup [.it .i64 0, .it .i64 (G.n s p a T), tlbA (G.t s p a T)]) (Om.pick (Nat.beq (Q.n T) 0) (true, .tup [.it .i64 0, .it .i64 0, tlbA T])
      (okN (Q.n T) && true, .tup [.it .i64 0, .it .i64 (W.n (fun e => Y.ps e p a) (Q.el T) (Q.n T)), tlbA (W.t (fun e => Y.ps e p a) T (Q.el T) (Q.n T))]))) := by kernel_rfl
theorem okN_ok (T : Tab) : okN (allN T) = true := by
  have := oks_len T
  have h := (all_eq T).1
  unfold okN
  rw [iEq_true.2 (rfl : ((allN T : Nat) : Int) = (allN T : Nat)), iLt_true.2 (show ((allN T : Nat) : Int) < 1000000 by omega)]
  rfl
theorem p40 : Plain Try.prog 40 Try.f40 := ⟨Try.func40, of_decide_eq_true (by kernel_rfl)⟩
theorem guest_small (T : Tab) (s : Sta) (p a : Int) : Small Try.prog 31 [.pt 0 [] tlbSh, staA s, .it .i64 p, .it .i64 a] (mem1 (tlbA T)) (.it .i64 (fnN (fun e => clPG e (vmF s) p a) T : Nat)) (mem1 (tlbA (fnT (fun e => clPG e (vmF s) p a) T))) := by
  have hE := guE ops prY dpW T s p a
  have hh : HSound Try.prog (hdG ops prY dpW) := hIn_ok PC_ok okHd p40 dpG_ov okHd
  have hp : Plain Try.prog 31 Try.f31 := ⟨Try.func31, of_decide_eq_true (by kernel_rfl)⟩
  cases h0 : Nat.beq (allN T) 0 with
  | true =>
    rw [show ops.n T = allN T from rfl, h0, Om.pick_t] at hE
    have e0 := Nat.eq_of_beq_eq_true h0
    unfold fnN fnT
    rw [e0]
    exact small_ok mix fair PC_ok hh hp (fun c _ => OvOk_none c) hE rfl rfl rfl rfl rfl rfl
  | false =>
    rw [show ops.n T = allN T from rfl, h0, Om.pick_f, okN_ok] at hE
    exact small_ok mix fair PC_ok hh hp (fun c _ => OvOk_none c) hE rfl rfl rfl rfl rfl rfl
theorem host_small (T : Tab) (s : Sta) (p a : Int) : Small Try.prog 28 [.pt 0 [] tlbSh, staA s, .it .i64 p, .it .i64 a] (mem1 (tlbA T)) (.it .i64 (fnN (fun e => clPH e a p) T : Nat)) (mem1 (tlbA (fnT (fun e => clPH e a p) T))) := by
  have hE := hoE ops prY dpW T s p a
  have hh : HSound Try.prog (hdH ops prY dpW) := hIn_ok PC_ok okHd p40 dpH_ov okHd
  have hp : Plain Try.prog 28 Try.f28 := ⟨Try.func28, of_decide_eq_true (by kernel_rfl)⟩
  cases h0 : Nat.beq (allN T) 0 with
  | true =>
    rw [show ops.n T = allN T from rfl, h0, Om.pick_t] at hE
    have e0 := Nat.eq_of_beq_eq_true h0
    unfold fnN fnT
    rw [e0]
    exact small_ok mix fair PC_ok hh hp (fun c _ => OvOk_none c) hE rfl rfl rfl rfl rfl rfl
  | false =>
    rw [show ops.n T = allN T from rfl, h0, Om.pick_f, okN_ok] at hE
    exact small_ok mix fair PC_ok hh hp (fun c _ => OvOk_none c) hE rfl rfl rfl rfl rfl rfl
def guY : GuY := ⟨fun s p a T => (fnN (fun e => clPG e (vmF s) p a) T : Nat), fun s p a T => fnT (fun e => clPG e (vmF s) p a) T⟩
def guestRow : MRow := rowB tlbSh [staSh, .int .i64, .int .i64] (fun g t => .it .i64 (guY.n (deSta (g 0)) (g 1).num (g 2).num (deT t))) (fun g t => tlbA (guY.t (deSta (g 0)) (g 1).num (g 2).num (deT t)))
theorem guestRow_ok : MRowOk Try.prog 31 guestRow := rowB_ok rfl rfl (fun _ _ => rfl) (fun _ _ => rfl) fun g t => guest_small (deT t) (deSta (g 0)) (g 1).num (g 2).num
def hostRow : MRow := rowB tlbSh [staSh, .int .i64, .int .i64] (fun g t => .it .i64 (fnN (fun e => clPH e (g 2).num (g 1).num) (deT t) : Nat)) (fun g t => tlbA (fnT (fun e => clPH e (g 2).num (g 1).num) (deT t)))
theorem hostRow_ok : MRowOk Try.prog 28 hostRow := rowB_ok rfl rfl (fun _ _ => rfl) (fun _ _ => rfl) fun g t => host_small (deT t) (deSta (g 0)) (g 1).num (g 2).num
theorem okHe : HSound Try.prog (HH2 (MTe ops prY guY) (MTq2 ops)) := HH2_ok (tb := MTe ops prY guY) ⟨guestRow_ok, cl41_ok, cl43_ok, cl46_ok, MTq_ok⟩ MTq2_ok
/-- The property that a fence of its own state names. -/
def sfP (s : Sta) (p a : Int) (e : En) : Bool := bif s.V then clPG e (vmF s) p a else clPS e p a
theorem sfence_small (T : Tab) (s : Sta) (p a : Int) : Small Try.prog 26 [.pt 0 [] tlbSh, staA s, .it .i64 p, .it .i64 a] (mem1 (tlbA T)) (.it .i64 (fnN (sfP s p a) T : Nat)) (mem1 (tlbA (fnT (sfP s p a) T))) := by
  have hE := sfE ops prY guY dpW T s p a
  have hh : HSound Try.prog (hdS ops prY guY dpW) := hIn_ok PC_ok okHd p40 dpS_ov okHe
  have hp : Plain Try.prog 26 Try.f26 := ⟨Try.func26, of_decide_eq_true (by kernel_rfl)⟩
  cases hv : s.V with
  | true =>
    rw [hv, Om.pick_t] at hE
    have e1 : sfP s p a = fun e => clPG e (vmF s) p a := by funext e; unfold sfP; rw [hv]; rfl
    rw [e1]
    exact small_ok mix fair PC_ok hh hp (fun c _ => OvOk_none c) hE rfl rfl rfl rfl rfl rfl
  | false =>
    rw [hv, Om.pick_f] at hE
    have e1 : sfP s p a = fun e => clPS e p a := by funext e; unfold sfP; rw [hv]; rfl
    rw [e1]
    cases h0 : Nat.beq (allN T) 0 with
    | true =>
      rw [show ops.n T = allN T from rfl, h0, Om.pick_t] at hE
      have e0 := Nat.eq_of_beq_eq_true h0
      unfold fnN fnT
      rw [e0]
      exact small_ok mix fair PC_ok hh hp (fun c _ => OvOk_none c) hE rfl rfl rfl rfl rfl rfl
    | false =>
      rw [show ops.n T = allN T from rfl, h0, Om.pick_f, okN_ok] at hE
      exact small_ok mix fair PC_ok hh hp (fun c _ => OvOk_none c) hE rfl rfl rfl rfl rfl rfl
def sfRow : MRow := rowB tlbSh [staSh, .int .i64, .int .i64] (fun g t => .it .i64 (fnN (sfP (deSta (g 0)) (g 1).num (g 2).num) (deT t) : Nat)) (fun g t => tlbA (fnT (sfP (deSta (g 0)) (g 1).num (g 2).num) (deT t)))
theorem sfRow_ok : MRowOk Try.prog 26 sfRow := rowB_ok rfl rfl (fun _ _ => rfl) (fun _ _ => rfl) fun g t => sfence_small (deT t) (deSta (g 0)) (g 1).num (g 2).num

/- FenceGuests: rounds; the check of known fences. -/
/- What is kept. -/
def fgL : Lq := { n := 128, n0 := 7, ts := [2, 3, 12, 13, 14, 15, 16], mv := [], ids := [(5, true), (6, true)] }
def fgS (N N' M M' : Nat) (E G : Tab) (p a k vm i : Int) : List AV := [.it .i64 p, .it .i64 a, .sl 5 [] 0 N true, .sl 6 [] 0 M true, .it .i64 k, .it .i64 vm, .it .i64 i, elA N' E, elA M' G]
def fgL0 : Lq := { n := 128, n0 := 6, ts := [2, 3, 12, 13, 14, 15, 16], mv := [], ids := [(5, true)] }
def fgS0 (N N' : Nat) (E : Tab) (p a k vm i : Int) : List AV := [.it .i64 p, .it .i64 a, .sl 5 [] 0 N true, .nsl, .it .i64 k, .it .i64 vm, .it .i64 i, elA N' E]
def fgK (M : Nat) (E G : Tab) (k i : Int) : Bool := bif iLt k M then eqX (G (k.toNat + 0)) (E (i.toNat + 0)) else false
def fgM (vm : Int) (e : En) : Bool := bif e.v then iEq e.vmid vm else false
def fgC (N : Nat) (kp : Bool) (e : En) (p a vm i : Int) : Bool :=
  let c1 := bif !fgM vm e then !kp else false
  let c2 := bif kp then fgM vm e else false
  let c3 := bif c2 then bif iEq p (-1) then true else iEq e.page p else false
  (!(!c1 && c2 && !iEq p (-1)) || iIn i N) && ((!(!c1 && c3 && !iEq a (-1)) || iIn i N) && ((!bif c1 then true else bif c3 then bif iEq a (-1) then true else iEq e.asid a else false) && true))
theorem fgA (N N' M M' : Nat) (E G : Tab) (p a k vm i : Int) : evC Try.prog okT PC (HH []) RW NOV 101 false (bodyOf Try.f8.body 0) (fgL.F (fgS N N' M M' E G p a k vm i)) (fgL.M (fgS N N' M M' E G p a k vm i)) (grabJ 0 (grabQ fgL)) =
    some (Om.land (iLt i N) (Om.land (iIn i N) (Om.land (!(E (i.toNat + 0)).v || iIn i N) (Om.land (!iLt k M || iIn k M) (Om.land (!iLt k M || iIn i N) (Om.pick (fgK M E G k i)
      (fgC N (fgK M E G k i) (E (i.toNat + 0)) p a vm i, .tup (.it .i64 0 :: fgS N N' M M' E G p a (iAdd .i64 k 1) vm (iAdd .i64 i 1)))
      (fgC N (fgK M E G k i) (E (i.toNat + 0)) p a vm i, .tup (.it .i64 0 :: fgS N N' M M' E G p a k vm (iAdd .i64 i 1))))))))) := by kernel_rfl
theorem fgX (N N' M M' : Nat) (E G : Tab) (p a k vm i : Int) : evC Try.prog okT PC (HH []) RW NOV 101 false (bodyOf Try.f8.body 0) (fgL.F (fgS N N' M M' E G p a k vm i)) (fgL.M (fgS N N' M M' E G p a k vm i)) (grabJ 2 (grabQ fgL)) =
    some (!iLt i N && true, .tup (.it .i64 2 :: fgS N N' M M' E G p a k vm i)) := by kernel_rfl
theorem fgA0 (N N' : Nat) (E : Tab) (p a k vm i : Int) : evC Try.prog okT PC (HH []) RW NOV 101 false (bodyOf Try.f8.body 0) (fgL0.F (fgS0 N N' E p a k vm i)) (fgL0.M (fgS0 N N' E p a k vm i)) (grabJ 0 (grabQ fgL0)) =
    some (Om.land (iLt i N) (Om.land (iIn i N) (Om.land (!(E (i.toNat + 0)).v || iIn i N) (Om.land (!iLt k 0) (Om.land (!iLt k 0) (Om.land (!iLt k 0 || iIn i N) (Om.land (!iLt k 0) (Om.land (!iLt k 0) (Om.pick false
      (fgC N false (E (i.toNat + 0)) p a vm i, .tup (.it .i64 0 :: fgS0 N N' E p a (iAdd .i64 k 1) vm (iAdd .i64 i 1)))
      (fgC N false (E (i.toNat + 0)) p a vm i, .tup (.it .i64 0 :: fgS0 N N' E p a k vm (iAdd .i64 i 1)))))))))))) := by kernel_rfl
theorem fgX0 (N N' : Nat) (E : Tab) (p a k vm i : Int) : evC Try.prog okT PC (HH []) RW NOV 101 false (bodyOf Try.f8.body 0) (fgL0.F (fgS0 N N' E p a k vm i)) (fgL0.M (fgS0 N N' E p a k vm i)) (grabJ 2 (grabQ fgL0)) =
    some (!iLt i N && true, .tup (.it .i64 2 :: fgS0 N N' E p a k vm i)) := by kernel_rfl
/- The fills. -/
def flL : Lq := { n := 32, n0 := 5, ts := [0, 4, 5, 6], mv := [], ids := [(0, false), (1, true), (2, true), (3, true), (4, true)] }
def flS (n n' : Nat) (E : Tab) (s1 s2 : Sta) (T R : Tab) (i : Int) : List AV := [.sl 0 [] 0 n false, .pt 3 [] tlbSh, .pt 4 [] tlbSh, .it .i64 i, elA n' E, staA s1, staA s2, tlbA T, tlbA R]
theorem flA (Q : Ops) (n n' : Nat) (E : Tab) (s1 s2 : Sta) (T R : Tab) (i : Int) : evC Try.prog okT PC (HH2 (MTq Q) (MTq2 Q)) RW NOV 101 false (bodyOf Try.f25.body 0) (flL.F (flS n n' E s1 s2 T R i)) (flL.M (flS n n' E s1 s2 T R i)) (grabJ 0 (grabQ flL)) =
    some (iLt i n && (iIn i n && (iIn i n && true)), .tup (.it .i64 0 :: flS n n' E s1 s2 (Q.fi T (E (i.toNat + 0)) i) (Q.fi R (E (i.toNat + 0)) i) (iAdd .i64 i 1))) := by kernel_rfl
theorem flX (Q : Ops) (n n' : Nat) (E : Tab) (s1 s2 : Sta) (T R : Tab) (i : Int) : evC Try.prog okT PC (HH2 (MTq Q) (MTq2 Q)) RW NOV 101 false (bodyOf Try.f25.body 0) (flL.F (flS n n' E s1 s2 T R i)) (flL.M (flS n n' E s1 s2 T R i)) (grabJ 2 (grabQ flL)) =
    some (!iLt i n && true, .tup (.it .i64 2 :: flS n n' E s1 s2 T R i)) := by kernel_rfl

/- The check of known fences. -/
def MT14 : List (FuncId × MRow) := [(26, sfRow), (28, hostRow), (31, guestRow), (12, fillRow)]
theorem MT14_ok : MOk Try.prog MT14 := ⟨sfRow_ok, hostRow_ok, guestRow_ok, fillRow_ok, trivial⟩
theorem known14E : evFn Try.prog okT PC (HH2 MT14 (MTq2 ops)) RW NOV 101 false Try.f23 [] Mem.empty (finQ L0) = some (true, .tup [.it .i64 0, .bl true]) := by kernel_rfl
theorem known14_small : Small Try.prog 23 [] Mem.empty (.bl true) Mem.empty :=
  small_ok mix fair PC_ok (HH2_ok MT14_ok MTq2_ok) (f := 23) ⟨Try.func23, of_decide_eq_true (by kernel_rfl)⟩ (fun c _ => OvOk_none c) known14E rfl rfl rfl rfl rfl rfl

/- FenceGuests, evaluated. -/
structure FlW where
  ft : Nat → Tab → Tab → Tab
structure FgW where
  ok : Nat → Nat → Tab → Tab → Int → Int → Int → Bool
  ok0 : Nat → Tab → Int → Int → Int → Bool
  k : Nat → Nat → Tab → Tab → Int
structure FgZ where
  cl : Sta → Sta
  n : Sta → Int → Int → Tab → Int
  t : Sta → Int → Int → Tab → Tab
def flTs : List Tm := [.fx .ref, .fx .ref, .fx .ref, .fx (.int .i64), .ar entSh, .fx staSh, .fx staSh, .fx tlbSh, .fx tlbSh]
def flE (W : FlW) (g : Nat → AV) : List AV := flS (lenS (g 0)) (lenA (g 4)) (arT (g 4)) (deSta (g 5)) (deSta (g 6)) (W.ft (lenS (g 0)) (arT (g 4)) (deT (g 7))) (W.ft (lenS (g 0)) (arT (g 4)) (deT (g 8))) (lenS (g 0) : Nat)
def flGo (W : FlW) : (Nat → AV) → Kc → Option Out := goJ (fun g => isSlq 0 false (g 0) && (isPt 3 tlbSh (g 1) && isPt 4 tlbSh (g 2))) (fun g => iEq (g 3).num 0 && iLt (lenS (g 0)) 1000000) .normal (fun g => flL.F (flE W g)) (fun g => flL.M (flE W g))
def fgTs : List Tm := [.fx (.int .i64), .fx (.int .i64), .fx .ref, .fx .ref, .fx (.int .i64), .fx (.int .i64), .fx (.int .i64), .ar entSh, .ar entSh]
def fgE (W : FgW) (g : Nat → AV) : List AV := fgS (lenS (g 2)) (lenA (g 7)) (lenS (g 3)) (lenA (g 8)) (arT (g 7)) (arT (g 8)) (g 0).num (g 1).num (W.k (lenS (g 2)) (lenS (g 3)) (arT (g 7)) (arT (g 8))) (g 5).num (lenS (g 2) : Nat)
def fgGo (W : FgW) : (Nat → AV) → Kc → Option Out := goJ (fun g => isSlq 5 true (g 2) && isSlq 6 true (g 3)) (fun g => iEq (g 4).num 0 && (iEq (g 6).num 0 && W.ok (lenS (g 2)) (lenS (g 3)) (arT (g 7)) (arT (g 8)) (g 0).num (g 1).num (g 5).num)) .normal (fun g => fgL.F (fgE W g)) (fun g => fgL.M (fgE W g))
def fg0Ts : List Tm := [.fx (.int .i64), .fx (.int .i64), .fx .ref, .fx .ref, .fx (.int .i64), .fx (.int .i64), .fx (.int .i64), .ar entSh]
def fg0E (g : Nat → AV) : List AV := fgS0 (lenS (g 2)) (lenA (g 7)) (arT (g 7)) (g 0).num (g 1).num 0 (g 5).num (lenS (g 2) : Nat)
def fg0Go (W : FgW) : (Nat → AV) → Kc → Option Out := goJ (fun g => isSlq 5 true (g 2) && isNsl (g 3)) (fun g => iEq (g 4).num 0 && (iEq (g 6).num 0 && W.ok0 (lenS (g 2)) (arT (g 7)) (g 0).num (g 1).num (g 5).num)) .normal (fun g => fgL0.F (fg0E g)) (fun g => fgL0.M (fg0E g))
noncomputable def MTg (Q : Ops) (Z : FgZ) : List (FuncId × MRow) := (23, row0 (.bl true)) :: (24, rowV staSh fun a => staA (Z.cl (deSta a))) :: (26, rowB tlbSh [staSh, .int .i64, .int .i64] (fun g t => .it .i64 (Z.n (deSta (g 0)) (g 1).num (g 2).num (deT t))) (fun g t => tlbA (Z.t (deSta (g 0)) (g 1).num (g 2).num (deT t)))) :: MTq Q
noncomputable def hdF (Q : Ops) (Z : FgZ) (W : FlW) : Hd := hIn PC (HH2 (MTq Q) (MTq2 Q)) (ovT 0 flL flTs (flGo W)) 25 Try.f25 (HH2 (MTg Q Z) (MTq2 Q))
def fgOv (W : FgW) : Ov := ovOr (ovT 0 fgL fgTs (fgGo W)) (ovT 0 fgL0 fg0Ts (fg0Go W))
/-- The state that the law takes: of a guest. -/
def fgSt (c : Sta) : Sta := ⟨c.X, c.pc, 1, true, c.C, c.dn⟩
def entM (n : Nat) (E : Tab) : Mem := Mem.empty.add (.cells (elA n E) false)
def onP0 : Lq := { n := 1, n0 := 1, ts := [0], mv := [], ids := [] }
theorem fgLaw (Q : Ops) (Z : FgZ) (W : FlW) (V : FgW) (n : Nat) (E : Tab) (s : Sta) (p a : Int) : evFn Try.prog okT PC (hdF Q Z W) RW (fgOv V) 101 false Try.f8 [.sl 0 [] 0 n false, staA s, .it .i64 p, .it .i64 a] (entM n E) (finQ onP0) =
    some (Om.pick (!true) (true, .tup [.it .i64 0, .bl false]) (Om.pick (iLt 40 n) (true, .tup [.it .i64 0, .bl true]) (Om.land (iEq 0 0 && iLt n 1000000)
      (Om.pick (Nat.beq (Q.n (W.ft n E fun _ => noEn)) 0)
        (Om.land (Nat.beq (Q.n (Z.t (fgSt (Z.cl s)) p a (W.ft n E fun _ => noEn))) 0) (true, .tup [.it .i64 0, .bl (iEq 0 0)]))
        (Om.pick (Nat.beq (Q.n (Z.t (fgSt (Z.cl s)) p a (W.ft n E fun _ => noEn))) 0)
          (Om.land (iEq 0 0 && (iEq 0 0 && V.ok0 (Q.n (W.ft n E fun _ => noEn)) (Q.el (W.ft n E fun _ => noEn)) p a (sfVm (fgSt (Z.cl s))))) (true, .tup [.it .i64 0, .bl (iEq 0 0)]))
          (Om.land (iEq 0 0 && (iEq 0 0 && V.ok (Q.n (W.ft n E fun _ => noEn)) (Q.n (Z.t (fgSt (Z.cl s)) p a (W.ft n E fun _ => noEn))) (Q.el (W.ft n E fun _ => noEn)) (Q.el (Z.t (fgSt (Z.cl s)) p a (W.ft n E fun _ => noEn))) p a (sfVm (fgSt (Z.cl s)))))
            (true, .tup [.it .i64 0, .bl (iEq (V.k (Q.n (W.ft n E fun _ => noEn)) (Q.n (Z.t (fgSt (Z.cl s)) p a (W.ft n E fun _ => noEn))) (Q.el (W.ft n E fun _ => noEn)) (Q.el (Z.t (fgSt (Z.cl s)) p a (W.ft n E fun _ => noEn)))) (Q.n (Z.t (fgSt (Z.cl s)) p a (W.ft n E fun _ => noEn))))]))))))) := by kernel_rfl

/- FenceGuests: the loops' meaning. -/
def fiT (E T : Tab) : Nat → Tab
  | 0 => T
  | j + 1 => fillF (fiT E T j) (E j) (j : Nat)
def flW : FlW := ⟨fun n E T => fiT E T n⟩
def fgKs (M : Nat) (E G : Tab) : Nat → Nat
  | 0 => 0
  | i + 1 => bif fgK M E G (fgKs M E G i : Nat) (i : Nat) then fgKs M E G i + 1 else fgKs M E G i
theorem fgKs_le (M : Nat) (E G : Tab) : ∀ i, fgKs M E G i ≤ i
  | 0 => Nat.le_refl _
  | i + 1 => by
    unfold fgKs
    have := fgKs_le M E G i
    cases fgK M E G (fgKs M E G i : Nat) (i : Nat) <;> simp <;> omega
def fgOk (N M : Nat) (E G : Tab) (p a vm : Int) : Bool := Nat.blt N 1000000 && upTo (fun i => fgC N (fgK M E G (fgKs M E G i : Nat) (i : Nat)) (E i) p a vm (i : Nat)) N
def fgOk0 (N : Nat) (E : Tab) (p a vm : Int) : Bool := Nat.blt N 1000000 && upTo (fun i => fgC N false (E i) p a vm (i : Nat)) N
def fgW : FgW := ⟨fgOk, fgOk0, fun N M E G => fgKs M E G N⟩
theorem okHq : HSound Try.prog (HH2 (MTq ops) (MTq2 ops)) := okH
theorem turnQ {b : Code} {L : Lq} (hL : L.wf = true) {K : Kc} (hK : Part L K) {fr : Fr} {m : Mem} (hg0 : NoGd fr) {c : Int} {r : List AV} {g : Bool}
    (he : evC Try.prog okT PC (HH2 (MTq ops) (MTq2 ops)) RW NOV 101 false b fr m K = some (g, .tup (.it .i64 c :: r))) (hg : g = true) (hr : L.ok r = true) : Turn Try.prog L.n0 b fr m c (L.F r) (L.M r) :=
  turnK_ok mix fair PC_ok okH (OvOk_none _) hL hK hg0 he hg hr
theorem flGo_ok : GoesT Try.prog 0 (.loop (bodyOf Try.f25.body 0)) flL flTs (flGo flW) := goT_ok fun g h1 h2 => by
  simp only [Bool.and_eq_true] at h1 h2
  obtain ⟨c0, c1, c2⟩ := h1
  obtain ⟨d1, d2⟩ := h2
  have hN := iLt_true.1 d2
  refine ⟨noGd_all (L := flL) rfl, fun fr m hm hb => ?_⟩
  have hst : norms (tmS g flTs 0) 0 g = flS (lenS (g 0)) (lenA (g 4)) (arT (g 4)) (deSta (g 5)) (deSta (g 6)) (deT (g 7)) (deT (g 8)) 0 := by
    have : norms (tmS g flTs 0) 0 g = [g 0, g 1, g 2, .it .i64 (g 3).num, elA (lenA (g 4)) (arT (g 4)), staA (deSta (g 5)), staA (deSta (g 6)), tlbA (deT (g 7)), tlbA (deT (g 8))] := rfl
    rw [this, iEq_true.1 d1, isPt_ok c1, isPt_ok c2]
    unfold flS
    rw [← isSlq_ok c0]
  rw [hst] at hb
  refine loopJ_block (F := fun j => flL.F (flS (lenS (g 0)) (lenA (g 4)) (arT (g 4)) (deSta (g 5)) (deSta (g 6)) (fiT (arT (g 4)) (deT (g 7)) j) (fiT (arT (g 4)) (deT (g 8)) j) (j : Nat))) (M := fun j => flL.M (flS (lenS (g 0)) (lenA (g 4)) (arT (g 4)) (deSta (g 5)) (deSta (g 6)) (fiT (arT (g 4)) (deT (g 7)) j) (fiT (arT (g 4)) (deT (g 8)) j) (j : Nat))) (n := lenS (g 0)) (c := 2)
    (fun j hj => ?_) ?_ (by decide) hm hb (e := .exit 0) rfl
  · have hE := flA ops (lenS (g 0)) (lenA (g 4)) (arT (g 4)) (deSta (g 5)) (deSta (g 6)) (fiT (arT (g 4)) (deT (g 7)) j) (fiT (arT (g 4)) (deT (g 8)) j) ((j : Nat) : Int)
    rw [iAdd_b j (by omega), iLt_true.2 (show (j : Int) < (lenS (g 0) : Nat) by omega), iIn_true.2 (show 0 ≤ (j : Int) ∧ (j : Int) < (lenS (g 0) : Nat) by omega), Nat.add_zero, Int.toNat_natCast] at hE
    exact turnQ (L := flL) rfl (grabJ_part 0 (Part.refl _)) (noGd_all (L := flL) rfl) hE rfl rfl
  · exact turnQ (L := flL) rfl (grabJ_part 2 (Part.refl _)) (noGd_all (L := flL) rfl) (flX ops (lenS (g 0)) (lenA (g 4)) (arT (g 4)) (deSta (g 5)) (deSta (g 6)) (fiT (arT (g 4)) (deT (g 7)) (lenS (g 0))) (fiT (arT (g 4)) (deT (g 8)) (lenS (g 0))) ((lenS (g 0) : Nat) : Int)) (by rw [iLt_false.2 (Int.le_refl _)]; rfl) rfl
theorem fgGo_ok : GoesT Try.prog 0 (.loop (bodyOf Try.f8.body 0)) fgL fgTs (fgGo fgW) := goT_ok fun g h1 h2 => by
  simp only [Bool.and_eq_true] at h1 h2
  obtain ⟨c0, c1⟩ := h1
  obtain ⟨d1, d2, d3⟩ := h2
  refine ⟨noGd_all (L := fgL) rfl, fun fr m hm hb => ?_⟩
  have hst : norms (tmS g fgTs 0) 0 g = fgS (lenS (g 2)) (lenA (g 7)) (lenS (g 3)) (lenA (g 8)) (arT (g 7)) (arT (g 8)) (g 0).num (g 1).num 0 (g 5).num 0 := by
    have : norms (tmS g fgTs 0) 0 g = [.it .i64 (g 0).num, .it .i64 (g 1).num, g 2, g 3, .it .i64 (g 4).num, .it .i64 (g 5).num, .it .i64 (g 6).num, elA (lenA (g 7)) (arT (g 7)), elA (lenA (g 8)) (arT (g 8))] := rfl
    rw [this, iEq_true.1 d1, iEq_true.1 d2]
    unfold fgS
    rw [← isSlq_ok c0, ← isSlq_ok c1]
  rw [hst] at hb
  have d3 : fgOk (lenS (g 2)) (lenS (g 3)) (arT (g 7)) (arT (g 8)) (g 0).num (g 1).num (g 5).num = true := d3
  unfold fgOk at d3
  simp only [Bool.and_eq_true, Nat.blt_eq] at d3
  obtain ⟨hN, hup⟩ := d3
  refine loopJ_block (F := fun j => fgL.F (fgS (lenS (g 2)) (lenA (g 7)) (lenS (g 3)) (lenA (g 8)) (arT (g 7)) (arT (g 8)) (g 0).num (g 1).num (fgKs (lenS (g 3)) (arT (g 7)) (arT (g 8)) j : Nat) (g 5).num (j : Nat))) (M := fun j => fgL.M (fgS (lenS (g 2)) (lenA (g 7)) (lenS (g 3)) (lenA (g 8)) (arT (g 7)) (arT (g 8)) (g 0).num (g 1).num (fgKs (lenS (g 3)) (arT (g 7)) (arT (g 8)) j : Nat) (g 5).num (j : Nat))) (n := lenS (g 2)) (c := 2)
    (fun j hj => ?_) ?_ (by decide) hm hb (e := .exit 0) rfl
  · have hE := fgA (lenS (g 2)) (lenA (g 7)) (lenS (g 3)) (lenA (g 8)) (arT (g 7)) (arT (g 8)) (g 0).num (g 1).num (fgKs (lenS (g 3)) (arT (g 7)) (arT (g 8)) j : Nat) (g 5).num ((j : Nat) : Int)
    have hle := fgKs_le (lenS (g 3)) (arT (g 7)) (arT (g 8)) j
    have hc := upTo_at (f := fun i => fgC (lenS (g 2)) (fgK (lenS (g 3)) (arT (g 7)) (arT (g 8)) (fgKs (lenS (g 3)) (arT (g 7)) (arT (g 8)) i : Nat) (i : Nat)) (arT (g 7) i) (g 0).num (g 1).num (g 5).num (i : Nat)) hup j hj
    have hk : (!iLt (fgKs (lenS (g 3)) (arT (g 7)) (arT (g 8)) j : Nat) (lenS (g 3)) || iIn (fgKs (lenS (g 3)) (arT (g 7)) (arT (g 8)) j : Nat) (lenS (g 3))) = true := by
      cases hl : iLt ((fgKs (lenS (g 3)) (arT (g 7)) (arT (g 8)) j : Nat) : Int) (lenS (g 3)) with
      | false => rfl
      | true => rw [iIn_true.2 ⟨Int.natCast_nonneg _, iLt_true.1 hl⟩]; rfl
    rw [iAdd_b j (by omega), iAdd_b (fgKs (lenS (g 3)) (arT (g 7)) (arT (g 8)) j) (by omega), hk, iLt_true.2 (show (j : Int) < (lenS (g 2) : Nat) by omega), iIn_true.2 (show 0 ≤ (j : Int) ∧ (j : Int) < (lenS (g 2) : Nat) by omega), Nat.add_zero, Int.toNat_natCast, Bool.or_true, Bool.or_true] at hE
    cases hq : fgK (lenS (g 3)) (arT (g 7)) (arT (g 8)) (fgKs (lenS (g 3)) (arT (g 7)) (arT (g 8)) j : Nat) (j : Nat) with
    | true =>
      rw [hq] at hc
      rw [hq, Om.pick_t, hc] at hE
      have e : fgKs (lenS (g 3)) (arT (g 7)) (arT (g 8)) (j + 1) = fgKs (lenS (g 3)) (arT (g 7)) (arT (g 8)) j + 1 := by
        conv => lhs; unfold fgKs
        rw [hq]; rfl
      rw [e]
      exact turnC (L := fgL) rfl (grabJ_part 0 (Part.refl _)) (noGd_all (L := fgL) rfl) hE rfl rfl
    | false =>
      rw [hq] at hc
      rw [hq, Om.pick_f, hc] at hE
      have e : fgKs (lenS (g 3)) (arT (g 7)) (arT (g 8)) (j + 1) = fgKs (lenS (g 3)) (arT (g 7)) (arT (g 8)) j := by
        conv => lhs; unfold fgKs
        rw [hq]; rfl
      rw [e]
      exact turnC (L := fgL) rfl (grabJ_part 0 (Part.refl _)) (noGd_all (L := fgL) rfl) hE rfl rfl
  · exact turnC (L := fgL) rfl (grabJ_part 2 (Part.refl _)) (noGd_all (L := fgL) rfl) (fgX (lenS (g 2)) (lenA (g 7)) (lenS (g 3)) (lenA (g 8)) (arT (g 7)) (arT (g 8)) (g 0).num (g 1).num (fgKs (lenS (g 3)) (arT (g 7)) (arT (g 8)) (lenS (g 2)) : Nat) (g 5).num ((lenS (g 2) : Nat) : Int)) (by rw [iLt_false.2 (Int.le_refl _)]; rfl) rfl
theorem fg0Go_ok : GoesT Try.prog 0 (.loop (bodyOf Try.f8.body 0)) fgL0 fg0Ts (fg0Go fgW) := goT_ok fun g h1 h2 => by
  simp only [Bool.and_eq_true] at h1 h2
  obtain ⟨c0, c1⟩ := h1
  obtain ⟨d1, d2, d3⟩ := h2
  refine ⟨noGd_all (L := fgL0) rfl, fun fr m hm hb => ?_⟩
  have hst : norms (tmS g fg0Ts 0) 0 g = fgS0 (lenS (g 2)) (lenA (g 7)) (arT (g 7)) (g 0).num (g 1).num 0 (g 5).num 0 := by
    have : norms (tmS g fg0Ts 0) 0 g = [.it .i64 (g 0).num, .it .i64 (g 1).num, g 2, g 3, .it .i64 (g 4).num, .it .i64 (g 5).num, .it .i64 (g 6).num, elA (lenA (g 7)) (arT (g 7))] := rfl
    rw [this, iEq_true.1 d1, iEq_true.1 d2, isNsl_ok c1]
    unfold fgS0
    rw [← isSlq_ok c0]
  rw [hst] at hb
  have d3 : fgOk0 (lenS (g 2)) (arT (g 7)) (g 0).num (g 1).num (g 5).num = true := d3
  unfold fgOk0 at d3
  simp only [Bool.and_eq_true, Nat.blt_eq] at d3
  obtain ⟨hN, hup⟩ := d3
  refine loopJ_block (F := fun j => fgL0.F (fgS0 (lenS (g 2)) (lenA (g 7)) (arT (g 7)) (g 0).num (g 1).num 0 (g 5).num (j : Nat))) (M := fun j => fgL0.M (fgS0 (lenS (g 2)) (lenA (g 7)) (arT (g 7)) (g 0).num (g 1).num 0 (g 5).num (j : Nat))) (n := lenS (g 2)) (c := 2)
    (fun j hj => ?_) ?_ (by decide) hm hb (e := .exit 0) rfl
  · have hE := fgA0 (lenS (g 2)) (lenA (g 7)) (arT (g 7)) (g 0).num (g 1).num 0 (g 5).num ((j : Nat) : Int)
    have hc := upTo_at (f := fun i => fgC (lenS (g 2)) false (arT (g 7) i) (g 0).num (g 1).num (g 5).num (i : Nat)) hup j hj
    rw [iAdd_b j (by omega), iLt_true.2 (show (j : Int) < (lenS (g 2) : Nat) by omega), iIn_true.2 (show 0 ≤ (j : Int) ∧ (j : Int) < (lenS (g 2) : Nat) by omega), Nat.add_zero, Int.toNat_natCast, Bool.or_true, Bool.or_true, Om.pick_f, hc] at hE
    exact turnC (L := fgL0) rfl (grabJ_part 0 (Part.refl _)) (noGd_all (L := fgL0) rfl) hE rfl rfl
  · exact turnC (L := fgL0) rfl (grabJ_part 2 (Part.refl _)) (noGd_all (L := fgL0) rfl) (fgX0 (lenS (g 2)) (lenA (g 7)) (arT (g 7)) (g 0).num (g 1).num 0 (g 5).num ((lenS (g 2) : Nat) : Int)) (by rw [iLt_false.2 (Int.le_refl _)]; rfl) rfl
theorem fl_blk (c : Code) (hc : Try.f25.body = some c) : blks c = [(0, .loop (bodyOf Try.f25.body 0)), (1, blkAt ((Try.f25.body).getD .skip) 1)] := by
  rw [show c = (Try.f25.body).getD .skip by rw [hc]; rfl]
  kernel_rfl
theorem fl_ov : ∀ c, Try.f25.body = some c → OvOk Try.prog (ovT 0 flL flTs (flGo flW)) c := fun c hc => ovT_ok rfl flGo_ok fun x hx h => by
  rw [fl_blk c hc] at hx
  simp only [List.mem_cons, List.not_mem_nil, or_false] at hx
  rcases hx with rfl | rfl <;> first | rfl | (cases h; done)
theorem fg_blk (c : Code) (hc : Try.f8.body = some c) : blks c = [(0, .loop (bodyOf Try.f8.body 0)), (1, blkAt ((Try.f8.body).getD .skip) 1)] := by
  rw [show c = (Try.f8.body).getD .skip by rw [hc]; rfl]
  kernel_rfl
theorem fg_ov : ∀ c, Try.f8.body = some c → OvOk Try.prog (fgOv fgW) c := fun c hc => ovOr_ok (ovT_ok rfl fgGo_ok fun x hx h => by
    rw [fg_blk c hc] at hx
    simp only [List.mem_cons, List.not_mem_nil, or_false] at hx
    rcases hx with rfl | rfl <;> first | rfl | (cases h; done)) (ovT_ok rfl fg0Go_ok fun x hx h => by
    rw [fg_blk c hc] at hx
    simp only [List.mem_cons, List.not_mem_nil, or_false] at hx
    rcases hx with rfl | rfl <;> first | rfl | (cases h; done))

/- FenceGuests: the law. -/
theorem uniq_sub {T S : Tab} (hu : Uniq T) (h : ∀ i, i < 16 → (S i).ok = true → S i = T i) : Uniq S := fun i j hi hj h1 h2 h3 => by
  have e1 := h i hi h1
  have e2 := h j hj h2
  rw [e1] at h1 h3
  rw [e2] at h2 h3
  exact hu i j hi hj h1 h2 h3
theorem sameE_refl (e : En) : sameE e e = true := by unfold sameE; simp [iEq_true]
/-- An entry, or none in its place. -/
def zapE (f : En → Bool) (e : En) : En := bif e.ok && f e then noEn else e
open Classical in
theorem dp_at (f : En → Bool) {T : Tab} (hu : Uniq T) : ∀ j, j ≤ (oks T).length → ∀ i, i < 16 → dpT f T (tabL (oks T)) j i = if (T i).ok = true ∧ f (T i) = true ∧ T i ∈ (oks T).take j then noEn else T i
  | 0, _, i, _ => by simp [dpT]
  | j + 1, hj, i, hi => by
    have ih := dp_at f hu j (by omega)
    have hlt : j < (oks T).length := by omega
    have hE : tabL (oks T) j = (oks T)[j] := tabL_lt hlt
    obtain ⟨ho, i0, hi0, he⟩ := oks_mem (List.getElem_mem hlt)
    have htake : (oks T).take (j + 1) = (oks T).take j ++ [(oks T)[j]] := by rw [List.take_add_one, List.getElem?_eq_getElem hlt]; rfl
    have hnot : (oks T)[j] ∉ (oks T).take j := fun hm => by
      obtain ⟨k, hk, hk2⟩ := List.mem_iff_getElem.1 hm
      rw [List.getElem_take] at hk2
      simp only [List.length_take] at hk
      have := List.pairwise_iff_getElem.1 (oks_apart hu) k j (by omega) hlt (by omega)
      rw [hk2] at this
      exact this ⟨rfl, rfl, rfl, rfl⟩
    unfold dpT
    rw [hE]
    cases hf : f (oks T)[j] with
    | false =>
      rw [cond_false, ih i hi, htake]
      simp only [List.mem_append, List.mem_singleton]
      by_cases h1 : (T i).ok = true ∧ f (T i) = true ∧ T i ∈ (oks T).take j
      · rw [if_pos h1, if_pos ⟨h1.1, h1.2.1, .inl h1.2.2⟩]
      · rw [if_neg h1, if_neg]
        rintro ⟨g1, g2, g3 | g3⟩
        · exact h1 ⟨g1, g2, g3⟩
        · rw [g3, hf] at g2; cases g2
    | true =>
      rw [cond_true]
      have hS0 : dpT f T (tabL (oks T)) j i0 = (oks T)[j] := by
        rw [ih i0 hi0, he, if_neg (fun h => hnot h.2.2)]
      have hSu : Uniq (dpT f T (tabL (oks T)) j) := uniq_sub hu fun k hk h => by
        rw [ih k hk] at h ⊢
        split at h
        · cases h
        · rename_i hn; rw [if_neg hn]
      have hfind := find_is hSu hi0 (e := (oks T)[j]) (by rw [hS0]; exact ho) (by rw [hS0]; exact ⟨rfl, rfl, rfl, rfl⟩)
      have hd : dropF (dpT f T (tabL (oks T)) j) (oks T)[j] = putF (dpT f T (tabL (oks T)) j) i0 noEn := by
        unfold dropF dropB
        rw [hfind, ho, cond_true, iLe_true.2 (Int.natCast_nonneg i0), cond_true, Int.toNat_natCast, hS0, sameE_refl]
        rfl
      rw [hd, htake]
      simp only [List.mem_append, List.mem_singleton]
      by_cases h0 : i = i0
      · subst h0
        rw [putF_at, he, if_pos ⟨ho, hf, .inr rfl⟩]
      · rw [putF_ne _ _ h0, ih i hi]
        by_cases h1 : (T i).ok = true ∧ f (T i) = true ∧ T i ∈ (oks T).take j
        · rw [if_pos h1, if_pos ⟨h1.1, h1.2.1, .inl h1.2.2⟩]
        · rw [if_neg h1, if_neg]
          rintro ⟨g1, g2, g3 | g3⟩
          · exact h1 ⟨g1, g2, g3⟩
          · exact h0 (hu i i0 hi hi0 g1 (by rw [he]; exact ho) (by rw [g3, he]; exact ⟨rfl, rfl, rfl, rfl⟩))
open Classical in
theorem fnT_at (f : En → Bool) {T : Tab} (hu : Uniq T) (i : Nat) (hi : i < 16) : fnT f T i = zapE f (T i) := by
  unfold fnT
  rw [(all_eq T).1, (all_eq T).2, dp_at f hu _ (Nat.le_refl _) i hi, List.take_length]
  unfold zapE
  cases h1 : (T i).ok with
  | false => simp
  | true =>
    have := oks_in hi h1
    cases h2 : f (T i) with
    | false => simp
    | true => simp [this]
theorem filter_zap (f : En → Bool) : ∀ L : List En, (L.map (zapE f)).filter (fun e => e.ok) = (L.filter fun e => e.ok).filter fun e => !f e
  | [] => rfl
  | e :: L => by
    have ih := filter_zap f L
    cases h1 : e.ok with
    | false =>
      have hz : zapE f e = e := by unfold zapE; rw [h1]; rfl
      rw [List.map_cons, hz, List.filter_cons, List.filter_cons, h1]
      exact ih
    | true =>
      cases h2 : f e with
      | false =>
        have hz : zapE f e = e := by unfold zapE; rw [h1, h2]; rfl
        rw [List.map_cons, hz, List.filter_cons, List.filter_cons, h1, if_pos rfl, if_pos rfl, List.filter_cons, h2, ih]
        rfl
      | true =>
        have hz : zapE f e = noEn := by unfold zapE; rw [h1, h2]; rfl
        rw [List.map_cons, hz, List.filter_cons, List.filter_cons, h1, if_pos rfl, List.filter_cons, h2]
        exact ih
theorem oks_fn (f : En → Bool) {T : Tab} (hu : Uniq T) : oks (fnT f T) = (oks T).filter fun e => !f e := by
  unfold oks
  rw [← filter_zap, List.map_map]
  congr 1
  apply List.map_congr_left
  intro i hi
  exact fnT_at f hu i (List.mem_range.1 hi)
theorem fi_uniq (E : Tab) : ∀ n, Uniq (fiT E (fun _ => noEn) n)
  | 0 => uniq_no
  | n + 1 => fill_uniq (fi_uniq E n) _ _

/- The walk along both rows. -/
theorem take_filter (f : En → Bool) (l : List En) (i : Nat) (hi : i < l.length) : l.filter (fun e => !f e) = (l.take i).filter (fun e => !f e) ++ ((if f l[i] then [] else [l[i]]) ++ (l.drop (i + 1)).filter fun e => !f e) := by
  conv => lhs; rw [← List.take_append_drop i l, List.filter_append, List.drop_eq_getElem_cons hi, List.filter_cons]
  cases h : f l[i] <;> simp
theorem fg_kept (f : En → Bool) (l : List En) (i : Nat) (hi : i < l.length) : fgK (l.filter fun e => !f e).length (tabL l) (tabL (l.filter fun e => !f e)) ((((l.take i).filter fun e => !f e).length : Nat)) (i : Nat) = !f l[i] := by
  have ht := take_filter f l i hi
  unfold fgK
  rw [Nat.add_zero, Nat.add_zero, Int.toNat_natCast, Int.toNat_natCast, tabL_lt hi]
  cases hf : f l[i] with
  | false =>
    rw [hf] at ht
    have hlt : ((l.take i).filter fun e => !f e).length < (l.filter fun e => !f e).length := by rw [ht]; simp
    have hat : tabL (l.filter fun e => !f e) ((l.take i).filter fun e => !f e).length = l[i] := by
      unfold tabL
      rw [ht, List.getD_eq_getElem?_getD, List.getElem?_append_right (Nat.le_refl _)]
      simp
    rw [iLt_n hlt, cond_true, hat, eqX_refl]; rfl
  | true =>
    cases hl : iLt ((((l.take i).filter fun e => !f e).length : Nat) : Int) ((l.filter fun e => !f e).length : Nat) with
    | false => rfl
    | true =>
      rw [cond_true]
      have hlt : ((l.take i).filter fun e => !f e).length < (l.filter fun e => !f e).length := by have := iLt_true.1 hl; omega
      rw [tabL_lt hlt]
      cases he : eqX ((l.filter fun e => !f e)[((l.take i).filter fun e => !f e).length]) l[i] with
      | false => rfl
      | true =>
        exfalso
        have h1 := eqX_eq he
        have h2 := (List.mem_filter.1 (List.getElem_mem hlt)).2
        rw [h1, hf] at h2
        cases h2
theorem fg_ks (f : En → Bool) (l : List En) : ∀ i, i ≤ l.length → fgKs (l.filter fun e => !f e).length (tabL l) (tabL (l.filter fun e => !f e)) i = ((l.take i).filter fun e => !f e).length
  | 0, _ => by simp [fgKs]
  | i + 1, h => by
    unfold fgKs
    rw [fg_ks f l i (by omega), fg_kept f l i (by omega), List.take_add_one, List.getElem?_eq_getElem (by omega), List.filter_append, List.length_append]
    cases hf : f (l[i]'(by omega)) <;> simp [hf]
theorem fgC_ok {N : Nat} {e : En} {p a vm : Int} {i : Nat} (hi : i < N) : fgC N (!clPG e vm p a) e p a vm (i : Nat) = true := by
  unfold fgC clPG fgM isF fence_is0
  rw [iIn_true.2 (show 0 ≤ (i : Int) ∧ (i : Int) < (N : Nat) by omega)]
  cases e.v <;> cases iEq e.vmid vm <;> cases iEq p (-1) <;> cases iEq e.page p <;> cases iEq a (-1) <;> cases iEq e.asid a <;> rfl

/- FenceGuests: the law, for all arguments. -/
theorem vm_eq (s : Sta) : vmF s = sfVm s := by
  unfold vmF fence_vmid0 word_Bits0 sfVm
  rw [show word_part0 16 8 = 16 by kernel_rfl, show word_mask0 (word_part1 16 8) = 255 by kernel_rfl]
def fgZ : FgZ := ⟨cleanF, fun s p a T => (fnN (sfP s p a) T : Nat), fun s p a T => fnT (sfP s p a) T⟩
theorem MTg_ok : MOk Try.prog (MTg ops fgZ) := ⟨row0_ok rfl known14_small, cleanRow_ok, sfRow_ok, MTq_ok⟩
theorem p25 : Plain Try.prog 25 Try.f25 := ⟨Try.func25, of_decide_eq_true (by kernel_rfl)⟩
theorem p8 : Plain Try.prog 8 Try.f8 := ⟨Try.func8, of_decide_eq_true (by kernel_rfl)⟩
theorem okHf : HSound Try.prog (hdF ops fgZ flW) := hIn_ok PC_ok okH p25 fl_ov (HH2_ok MTg_ok MTq2_ok)
theorem fg_all (T : Tab) (hu : Uniq T) (c : Sta) (hc : c.V = true) (p a : Int) :
    (Nat.beq (allN T) 0 = true → Nat.beq (allN (fnT (sfP c p a) T)) 0 = true) ∧
    (Nat.beq (allN (fnT (sfP c p a) T)) 0 = true → fgOk0 (allN T) (allE T) p a (sfVm c) = true) ∧
    fgOk (allN T) (allN (fnT (sfP c p a) T)) (allE T) (allE (fnT (sfP c p a) T)) p a (sfVm c) = true ∧
    fgKs (allN (fnT (sfP c p a) T)) (allE T) (allE (fnT (sfP c p a) T)) (allN T) = allN (fnT (sfP c p a) T) := by
  have hf : sfP c p a = fun e => clPG e (sfVm c) p a := by
    funext e; unfold sfP; rw [hc, cond_true, vm_eq]
  have hl := oks_len T
  rw [(all_eq T).1, (all_eq T).2, (all_eq (fnT (sfP c p a) T)).1, (all_eq (fnT (sfP c p a) T)).2, oks_fn _ hu]
  generalize hfe : sfP c p a = f at *
  refine ⟨fun h => ?_, fun h => ?_, ?_, ?_⟩
  · rw [List.eq_nil_of_length_eq_zero (Nat.eq_of_beq_eq_true h)]; rfl
  · have hz := List.eq_nil_of_length_eq_zero (Nat.eq_of_beq_eq_true h)
    unfold fgOk0
    rw [Bool.and_eq_true]
    refine ⟨by rw [Nat.blt_eq]; omega, upTo_all fun i hi => ?_⟩
    rw [tabL_lt hi]
    have h1 : f (oks T)[i] = true := by
      have := List.filter_eq_nil_iff.1 hz _ (List.getElem_mem hi)
      simpa using this
    rw [hf] at h1
    have h1 : clPG (oks T)[i] (sfVm c) p a = true := h1
    have := fgC_ok (N := (oks T).length) (e := (oks T)[i]) (p := p) (a := a) (vm := sfVm c) hi
    rw [h1] at this
    exact this
  · unfold fgOk
    rw [Bool.and_eq_true]
    refine ⟨by rw [Nat.blt_eq]; omega, upTo_all fun i hi => ?_⟩
    rw [fg_ks f (oks T) i (by omega), fg_kept f (oks T) i hi, tabL_lt hi, hf]
    exact fgC_ok hi
  · rw [fg_ks f (oks T) _ (Nat.le_refl _), List.take_length]
theorem fg_small (n : Nat) (E : Tab) (s : Sta) (p a : Int) : ∃ m', Small Try.prog 8 [.sl 0 [] 0 n false, staA s, .it .i64 p, .it .i64 a] (entM n E) (.bl true) m' := by
  have hE := fgLaw ops fgZ flW fgW n E s p a
  rw [show (!true) = false from rfl, Om.pick_f] at hE
  cases h40 : iLt 40 (n : Int) with
  | true =>
    rw [h40, Om.pick_t] at hE
    exact ⟨_, small_ok mix fair PC_ok okHf p8 fg_ov hE rfl rfl rfl rfl rfl rfl⟩
  | false =>
    have h40' := iLt_false.1 h40
    rw [h40, Om.pick_f, iLt_true.2 (show (n : Int) < 1000000 by omega)] at hE
    have hu := fi_uniq E n
    obtain ⟨q1, q2, q3, q4⟩ := fg_all (fiT E (fun _ => noEn) n) hu (fgSt (cleanF s)) rfl p a
    rw [show flW.ft n E (fun _ => noEn) = fiT E (fun _ => noEn) n from rfl, show ops.n = allN from rfl, show ops.el = allE from rfl, show fgZ.t (fgSt (fgZ.cl s)) p a (fiT E (fun _ => noEn) n) = fnT (sfP (fgSt (cleanF s)) p a) (fiT E (fun _ => noEn) n) from rfl, show fgZ.cl s = cleanF s from rfl, show fgW.ok = fgOk from rfl, show fgW.ok0 = fgOk0 from rfl] at hE
    cases h0 : Nat.beq (allN (fiT E (fun _ => noEn) n)) 0 with
    | true =>
      rw [h0, Om.pick_t, q1 h0] at hE
      exact ⟨_, small_ok mix fair PC_ok okHf p8 fg_ov hE rfl rfl rfl rfl rfl rfl⟩
    | false =>
      rw [h0, Om.pick_f] at hE
      cases h1 : Nat.beq (allN (fnT (sfP (fgSt (cleanF s)) p a) (fiT E (fun _ => noEn) n))) 0 with
      | true =>
        rw [h1, Om.pick_t, q2 h1] at hE
        exact ⟨_, small_ok mix fair PC_ok okHf p8 fg_ov hE rfl rfl rfl rfl rfl rfl⟩
      | false =>
        rw [h1, Om.pick_f, q3, show fgW.k (allN (fiT E (fun _ => noEn) n)) (allN (fnT (sfP (fgSt (cleanF s)) p a) (fiT E (fun _ => noEn) n))) (allE (fiT E (fun _ => noEn) n)) (allE (fnT (sfP (fgSt (cleanF s)) p a) (fiT E (fun _ => noEn) n))) = ((allN (fnT (sfP (fgSt (cleanF s)) p a) (fiT E (fun _ => noEn) n)) : Nat) : Int) from congrArg Int.ofNat q4, (iEq_true.2 rfl : iEq ((allN (fnT (sfP (fgSt (cleanF s)) p a) (fiT E (fun _ => noEn) n)) : Nat) : Int) ((allN (fnT (sfP (fgSt (cleanF s)) p a) (fiT E (fun _ => noEn) n)) : Nat) : Int) = true)] at hE
        exact ⟨_, small_ok mix fair PC_ok okHf p8 fg_ov hE rfl rfl rfl rfl rfl rfl⟩
/- .. without entries. -/
def rowO (Q : Ops) : MRow := fun args m => match args with
  | [.pt id [] r] => bif r.beq tlbSh then
      (match m.get id with
      | some (.cells t true) => bif t.shape.beq tlbSh then some (some (Nat.beq (Q.n (deT t)) 0), [id], .nsl, mem1 (tlbA (deT t))) else none
      | _ => none) else none
  | _ => none
theorem rowO_ok : MRowOk Try.prog 14 (rowO ops) := fun args m c τ v m1 he hc => by
  unfold rowO at he
  split at he <;> try (cases he; done)
  rename_i id r
  cases hb : r.beq tlbSh with
  | false => rw [hb] at he; cases he
  | true =>
  rw [hb, cond_true] at he
  split at he <;> try (cases he; done)
  rename_i t hm
  cases hb2 : t.shape.beq tlbSh with
  | false => rw [hb2] at he; cases he
  | true =>
  rw [hb2, cond_true] at he
  cases he
  have h0 : Nat.beq (allN (deT t)) 0 = true := by
    rcases hc with hc | hc
    · cases hc
    · exact Option.some.inj hc
  have hF : allRow [.pt id [] r] m = some (Nat.beq (allN (deT t)) 0, ([id], .nsl, mem1 (tlbA (deT t))), ([id], .sl 1 [] 0 (allN (deT t)) true, mem2 (tlbA (deT t)) (.arr (allN (deT t)) entSh fun j => enA (allE (deT t) j)))) := by
    unfold allRow rowZ
    simp only [hb, cond_true, hm, hb2]
  obtain ⟨h1, _⟩ := allRow_ok _ _ _ _ _ hF
  obtain ⟨a0, m0, q1, q2, q3⟩ := h1 h0
  exact ⟨a0, m0, q1, q2, q3⟩
noncomputable def MTh (Q : Ops) (Z : FgZ) : List (FuncId × MRow) := (14, rowO Q) :: MTg Q Z
noncomputable def hdO (Q : Ops) (Z : FgZ) : Hd := hIn PC (HH2 (MTq Q) (MTq2 Q)) NOV 25 Try.f25 (HH2 (MTh Q Z) (MTq2 Q))
theorem fgLaw0 (Q : Ops) (Z : FgZ) (s : Sta) (p a : Int) : evFn Try.prog okT PC (hdO Q Z) RW NOV 101 false Try.f8 [.nsl, staA s, .it .i64 p, .it .i64 a] Mem.empty (finQ L0) =
    some (Om.land (Nat.beq (Q.n fun _ => noEn) 0) (Om.land (Nat.beq (Q.n (Z.t (fgSt (Z.cl s)) p a fun _ => noEn)) 0) (true, .tup [.it .i64 0, .bl true]))) := by kernel_rfl
theorem okHo : HSound Try.prog (hdO ops fgZ) := hIn_ok PC_ok okH p25 (fun c _ => OvOk_none c) (HH2_ok (tb := MTh ops fgZ) ⟨rowO_ok, MTg_ok⟩ MTq2_ok)
theorem fg_small0 (s : Sta) (p a : Int) : ∃ m', Small Try.prog 8 [.nsl, staA s, .it .i64 p, .it .i64 a] Mem.empty (.bl true) m' := by
  have hE := fgLaw0 ops fgZ s p a
  have h0 : Nat.beq (allN fun _ => noEn) 0 = true := by rw [(all_eq _).1]; rfl
  have h1 := (fg_all (fun _ => noEn) uniq_no (fgSt (cleanF s)) rfl p a).1 h0
  rw [show ops.n = allN from rfl, h0, show fgZ.t (fgSt (fgZ.cl s)) p a (fun _ => noEn) = fnT (sfP (fgSt (cleanF s)) p a) (fun _ => noEn) from rfl, h1] at hE
  exact ⟨_, small_ok mix fair PC_ok okHo p8 (fun c _ => OvOk_none c) hE rfl rfl rfl rfl rfl rfl⟩
theorem ent_eq {f : Nat → AV} (h : ∀ i, Of entSh (f i)) : f = fun j => enA (deA (f j)) := by
  funext j
  rw [← norm_en, norm_eq _ _ (h j).1 (h j).2.1]
theorem fg_law (es : List Dat) (h : All2 Dat.Is [.sli entSh, .pl staSh, .pl (.int .i64), .pl (.int .i64)] es) : ∃ m', Small Try.prog 8 (opA es 0) (opM [.sli entSh, .pl staSh, .pl (.int .i64), .pl (.int .i64)] es Mem.empty) (.bl true) m' := by
  match es, h with
  | [.no, .pl a1, .pl a2, .pl a3], ⟨_, h1, h2, h3, _⟩ =>
    obtain ⟨p, rfl, _⟩ := of_it h2
    obtain ⟨a, rfl, _⟩ := of_it h3
    have e1 : a1 = staA (deSta a1) := by rw [← norm_sta, norm_eq _ _ h1.1 h1.2.1]
    rw [e1]
    exact fg_small0 (deSta a1) p a
  | [.sl n f, .pl a1, .pl a2, .pl a3], ⟨⟨_, hf⟩, h1, h2, h3, _⟩ =>
    obtain ⟨p, rfl, _⟩ := of_it h2
    obtain ⟨a, rfl, _⟩ := of_it h3
    have e1 : a1 = staA (deSta a1) := by rw [← norm_sta, norm_eq _ _ h1.1 h1.2.1]
    rw [e1, ent_eq hf]
    exact fg_small n (fun j => deA (f j)) (deSta a1) p a

/- The document's fences and the program's do the same; the comparison of rows in layer 14. -/
theorem sa_b27 (c : Code) (hc : Try.f27.body = some c) : blks c = [(0, .loop (bodyOf Try.f27.body 0)), (1, blkAt ((Try.f27.body).getD .skip) 1)] := by
  rw [show c = (Try.f27.body).getD .skip by rw [hc]; rfl]
  kernel_rfl
theorem sa_ov27 : ∀ c, Try.f27.body = some c → OvOk Try.prog (ovT 0 sameL saTs (saGo smF)) c := fun c hc => ovT_ok rfl (saGo_ok sa14) fun x hx h => by
  rw [sa_b27 c hc] at hx
  simp only [List.mem_cons, List.not_mem_nil, or_false] at hx
  rcases hx with rfl | rfl <;> first | rfl | (cases h; done)
theorem sam14_ok : MRowOk Try.prog 27 (samRow smF) :=
  samRow_ok (.inr trivial) (small_ok mix fair NPC_ok okH0 (f := 27) ⟨Try.func27, of_decide_eq_true (by kernel_rfl)⟩ (fun c _ => OvOk_none c) sa_nil14 rfl rfl rfl rfl rfl rfl)
    fun h => sa_small ⟨Try.func27, of_decide_eq_true (by kernel_rfl)⟩ sa_ov27 sa_law14 h
theorem zpT_at (f : En → Bool) (T : Tab) : ∀ (j i : Nat), i < j → zpT f T j i = bif f (T i) then noEn else T i
  | j + 1, i, h => by
    unfold zpT
    by_cases hi : i = j
    · subst hi
      cases hf : f (T i) with
      | true => rw [cond_true, putF_at]; rfl
      | false => rw [cond_false, zpT_ge f T i i (Nat.le_refl _)]; rfl
    · cases f (T j) with
      | true => rw [cond_true, putF_ne _ _ hi]; exact zpT_at f T j i (by omega)
      | false => rw [cond_false]; exact zpT_at f T j i (by omega)
theorem zpN_eq (f : En → Bool) (T : Tab) : ∀ j, zpN f T j = (((List.range j).map T).filter f).length
  | 0 => rfl
  | j + 1 => by
    unfold zpN
    rw [zpN_eq f T j, List.range_succ, List.map_append, List.filter_append, List.length_append]
    cases h : f (T j) <;> simp [h]
theorem dpN_eq (f : En → Bool) (l : List En) : ∀ j, j ≤ l.length → dpN f (tabL l) j = ((l.take j).filter f).length
  | 0, _ => by simp [dpN]
  | j + 1, h => by
    unfold dpN
    rw [dpN_eq f l j (by omega), tabL_lt (by omega), List.take_add_one, List.getElem?_eq_getElem (by omega), List.filter_append, List.length_append]
    cases hf : f (l[j]'(by omega)) <;> simp [hf]
theorem fnN_eq (f : En → Bool) (T : Tab) : fnN f T = ((oks T).filter f).length := by
  unfold fnN
  rw [(all_eq T).1, (all_eq T).2, dpN_eq f _ _ (Nat.le_refl _), List.take_length]
/-- .. so the program's fence counts and leaves what the document's does. -/
theorem fn_zpN (f g : En → Bool) (T : Tab) (h : ∀ e, g e = (e.ok && f e)) : fnN f T = zpN g T 16 := by
  rw [fnN_eq, zpN_eq]
  unfold oks
  rw [List.filter_filter]
  congr 1
  apply List.filter_congr
  intro e _
  rw [h]
  cases e.ok <;> cases f e <;> rfl
theorem fn_zpT (f g : En → Bool) {T : Tab} (hu : Uniq T) (h : ∀ e, g e = (e.ok && f e)) (i : Nat) (hi : i < 16) : fnT f T i = zpT g T 16 i := by
  rw [fnT_at f hu i hi, zpT_at g T 16 i hi, h]
  rfl
theorem fn_uniq (f : En → Bool) {T : Tab} (hu : Uniq T) : Uniq (fnT f T) := uniq_sub hu fun i hi h => by
  rw [fnT_at f hu i hi] at h ⊢
  unfold zapE at h ⊢
  cases hc : (T i).ok && f (T i) with
  | true => rw [hc] at h; cases h
  | false => rfl
theorem rs_sf (s : Sta) (p a : Int) (e : En) : rsP (sfVm s) s.V p a e = (e.ok && sfP s p a e) := by
  unfold rsP rsQ sfP clPG clPS nmd isF sallyportref13_named0 fence_is0
  rw [vm_eq]
  cases e.ok <;> cases e.v <;> cases s.V <;> cases iEq e.vmid (sfVm s) <;> cases iEq p (-1) <;> cases iEq e.page p <;> cases iEq a (-1) <;> cases iEq e.asid a <;> rfl
theorem rs_gu (s : Sta) (p a : Int) (e : En) : rsP (sfVm s) true p a e = (e.ok && clPG e (vmF s) p a) := by
  unfold rsP rsQ clPG nmd isF sallyportref13_named0 fence_is0
  rw [vm_eq]
  cases e.ok <;> cases e.v <;> cases iEq e.vmid (sfVm s) <;> cases iEq p (-1) <;> cases iEq e.page p <;> cases iEq a (-1) <;> cases iEq e.asid a <;> rfl
theorem rh_ho (p a : Int) (e : En) : rhP p a e = (e.ok && clPH e a p) := by
  unfold rhP clPH nmd isF sallyportref13_named0 fence_is0
  cases e.ok <;> cases e.v <;> cases iEq p (-1) <;> cases iEq e.guest p <;> cases iEq a (-1) <;> cases iEq e.vmid a <;> rfl

/- The fence that an instruction asks for, evaluated: the program's and the document's. -/
structure Ins where
  op : Int
  rd : Int
  r1 : Int
  r2 : Int
  im : Int
  cs : Int
def insSh : Sh := .agg [.int .i64, .int .i64, .int .i64, .int .i64, .int .i64, .int .i64]
def insA (i : Ins) : AV := .agg [.it .i64 i.op, .it .i64 i.rd, .it .i64 i.r1, .it .i64 i.r2, .it .i64 i.im, .it .i64 i.cs]
def deIns (a : AV) : Ins := ⟨(a.fld 0).num, (a.fld 1).num, (a.fld 2).num, (a.fld 3).num, (a.fld 4).num, (a.fld 5).num⟩
structure DoZ where
  sn : Sta → Int → Int → Tab → Int
  st : Sta → Int → Int → Tab → Tab
  gn : Sta → Int → Int → Tab → Int
  gt : Sta → Int → Int → Tab → Tab
  hn : Sta → Int → Int → Tab → Int
  ht : Sta → Int → Int → Tab → Tab
  rn : Sta → Bool → Int → Int → Tab → Int
  rt : Sta → Bool → Int → Int → Tab → Tab
  kn : Int → Int → Tab → Int
  kt : Int → Int → Tab → Tab
noncomputable def MTo (Q : Ops) (Z : DoZ) : List (FuncId × MRow) :=
  (26, rowB tlbSh [staSh, .int .i64, .int .i64] (fun g t => .it .i64 (Z.sn (deSta (g 0)) (g 1).num (g 2).num (deT t))) (fun g t => tlbA (Z.st (deSta (g 0)) (g 1).num (g 2).num (deT t)))) ::
  (31, rowB tlbSh [staSh, .int .i64, .int .i64] (fun g t => .it .i64 (Z.gn (deSta (g 0)) (g 1).num (g 2).num (deT t))) (fun g t => tlbA (Z.gt (deSta (g 0)) (g 1).num (g 2).num (deT t)))) ::
  (28, rowB tlbSh [staSh, .int .i64, .int .i64] (fun g t => .it .i64 (Z.hn (deSta (g 0)) (g 1).num (g 2).num (deT t))) (fun g t => tlbA (Z.ht (deSta (g 0)) (g 1).num (g 2).num (deT t)))) ::
  (30, rowB tlbSh [staSh, .bool, .int .i64, .int .i64] (fun g t => .it .i64 (Z.rn (deSta (g 0)) (g 1).bool (g 2).num (g 3).num (deT t))) (fun g t => tlbA (Z.rt (deSta (g 0)) (g 1).bool (g 2).num (g 3).num (deT t)))) ::
  (32, rowB tlbSh [.int .i64, .int .i64] (fun g t => .it .i64 (Z.kn (g 0).num (g 1).num (deT t))) (fun g t => tlbA (Z.kt (g 0).num (g 1).num (deT t)))) :: MTq Q
def lf (n : Int) (T : Tab) : Out := (true, .tup [.it .i64 0, .it .i64 n, tlbA T])
def nam (s : Sta) (r k : Int) : Int := fence_named0 s.X s.pc s.lv s.V s.C s.dn r k
def doX (Q : Ops) (i : Ins) (T : Tab) : Out := Om.pick (bif legal_Writes0 i.op i.rd i.r1 i.r2 i.im i.cs then fence_table0 (csr_Index0 i.cs) else false) (lf (Q.n T) fun _ => noEn) (lf 0 T)
def doE (Q : Ops) (Z : DoZ) (s : Sta) (i : Ins) (T : Tab) : Out :=
  Om.pick (iEq i.op 63) (lf (Z.sn s (nam s i.r1 8) (nam s i.r2 0) T) (Z.st s (nam s i.r1 8) (nam s i.r2 0) T))
  (Om.pick (iEq i.op 64) (lf (Z.gn s (nam s i.r1 8) (nam s i.r2 0) T) (Z.gt s (nam s i.r1 8) (nam s i.r2 0) T))
  (Om.pick (iEq i.op 65) (lf (Z.hn s (nam s i.r1 6) (nam s i.r2 0) T) (Z.ht s (nam s i.r1 6) (nam s i.r2 0) T))
  (Om.pick (iEq i.op 54) (Om.pick (iEq i.op 54) (doX Q i T) (lf 0 T)) (Om.pick (iEq i.op 55) (Om.pick (iEq i.op 55) (doX Q i T) (lf 0 T)) (Om.pick (iEq i.op 56) (Om.pick (iEq i.op 56) (doX Q i T) (lf 0 T)) (Om.pick (iEq i.op 57) (Om.pick (iEq i.op 57) (doX Q i T) (lf 0 T)) (Om.pick (iEq i.op 58) (Om.pick (iEq i.op 58) (doX Q i T) (lf 0 T))
    (Om.pick (iEq i.op 59) (doX Q i T) (lf 0 T)))))))))
theorem doLaw (Q : Ops) (Z : DoZ) (s : Sta) (i : Ins) (T : Tab) : evFn Try.prog okT PC (HH2 (MTo Q Z) (MTq2 Q)) RW NOV 101 false Try.f33 [.pt 0 [] tlbSh, staA s, insA i] (mem1 (tlbA T)) (finQ L1) = some (doE Q Z s i T) := by kernel_rfl
/- The document's. -/
def rdN (s : Sta) (r : Int) (k m : Int) : Int := iConv .i64 (iAnd .u64 (iShr .u64 (s.X (r.toNat + 0)) k) m)
def rdFl (Q : Ops) (T : Tab) : Out := Om.pick (Nat.beq (Q.n T) 0) (lf 0 fun _ => noEn) (lf (Q.n T) fun _ => noEn)
def rdTb (Q : Ops) (n : Int) (T : Tab) : Out := Om.pick (bif bif iEq n 384 then true else iEq n 640 then true else iEq n 1664) (rdFl Q T) (lf 0 T)
def rdSw (Q : Ops) (Z : DoZ) (s : Sta) (i : Ins) (T : Tab) (a b : Int) : Out :=
  Om.pick (iEq i.op 63) (lf (Z.rn s s.V a b T) (Z.rt s s.V a b T)) (Om.pick (iEq i.op 64) (lf (Z.rn s true a b T) (Z.rt s true a b T)) (Om.pick (iEq i.op 65) (lf (Z.kn a b T) (Z.kt a b T))
    (Om.pick (bif bif iLe 54 i.op then iLe i.op 59 else false then sallyportref8_Writes0 i.op i.rd i.r1 i.r2 i.im i.cs else false) (Om.pick s.V (rdTb Q (sallyportref8_Redirect0 i.cs) T) (rdTb Q i.cs T)) (lf 0 T))))
def rdBb (Q : Ops) (Z : DoZ) (s : Sta) (i : Ins) (T : Tab) (a : Int) : Out := Om.pick (bif iLt 0 i.r2 then iLt i.r2 32 else false) (Om.land (iIn i.r2 32) (rdSw Q Z s i T a (iConv .i64 (iAnd .u64 (s.X (i.r2.toNat)) 255)))) (rdSw Q Z s i T a (-1))
def rdE (Q : Ops) (Z : DoZ) (s : Sta) (i : Ins) (T : Tab) : Out := Om.pick (bif iLt 0 i.r1 then iLt i.r1 32 else false)
  (Om.land (iIn i.r1 32) (Om.pick (iEq i.op 65) (Om.land (iIn i.r1 32) (rdBb Q Z s i T (iConv .i64 (iAnd .u64 (iShr .u64 (s.X (i.r1.toNat)) 6) 255)))) (rdBb Q Z s i T (iConv .i64 (iAnd .u64 (iShr .u64 (s.X (i.r1.toNat)) 8) 255)))))
  (rdBb Q Z s i T (-1))
theorem rdLaw (Q : Ops) (Z : DoZ) (s : Sta) (i : Ins) (T : Tab) : evFn Try.prog okT PC (HH2 (MTo Q Z) (MTq2 Q)) RW NOV 101 false Try.f34 [.pt 0 [] tlbSh, staA s, insA i] (mem1 (tlbA T)) (finQ L1) = some (rdE Q Z s i T) := by kernel_rfl

/- Contracts of the fence that an instruction asks for. -/
theorem lf_pick (x : Bool) (a b : Int) (A B : Tab) : Om.pick x (lf a A) (lf b B) = lf (bif x then a else b) (bif x then A else B) := by
  cases x with
  | true => rw [Om.pick_t]; rfl
  | false => rw [Om.pick_f]; rfl
theorem land_t (x : Out) : Om.land true x = x := by cases x; rfl
def doZ : DoZ := ⟨fun s p a T => (fnN (sfP s p a) T : Nat), fun s p a T => fnT (sfP s p a) T, guY.n, guY.t, fun s p a T => (fnN (fun e => clPH e a p) T : Nat), fun s p a T => fnT (fun e => clPH e a p) T,
  fun s v p a T => (zpN (rsP (sfVm s) v p a) T 16 : Nat), fun s v p a T => zpT (rsP (sfVm s) v p a) T 16, fun p a T => (zpN (rhP p a) T 16 : Nat), fun p a T => zpT (rhP p a) T 16⟩
theorem MTo_ok : MOk Try.prog (MTo ops doZ) := ⟨sfRow_ok, guestRow_ok, hostRow_ok, rsRow_ok, rhRow_ok, MTq_ok⟩
theorem okHo2 : HSound Try.prog (HH2 (MTo ops doZ) (MTq2 ops)) := HH2_ok MTo_ok MTq2_ok
def doC (i : Ins) : Bool := bif legal_Writes0 i.op i.rd i.r1 i.r2 i.im i.cs then fence_table0 (csr_Index0 i.cs) else false
/-- Whether one of the six. -/
def do6 (i : Ins) : Bool := bif iEq i.op 54 then true else bif iEq i.op 55 then true else bif iEq i.op 56 then true else bif iEq i.op 57 then true else bif iEq i.op 58 then true else iEq i.op 59
def doN (s : Sta) (i : Ins) (T : Tab) : Int :=
  bif iEq i.op 63 then (fnN (sfP s (nam s i.r1 8) (nam s i.r2 0)) T : Nat) else bif iEq i.op 64 then (fnN (fun e => clPG e (vmF s) (nam s i.r1 8) (nam s i.r2 0)) T : Nat) else bif iEq i.op 65 then (fnN (fun e => clPH e (nam s i.r2 0) (nam s i.r1 6)) T : Nat) else
  bif do6 i && doC i then (allN T : Nat) else 0
def doT (s : Sta) (i : Ins) (T : Tab) : Tab :=
  bif iEq i.op 63 then fnT (sfP s (nam s i.r1 8) (nam s i.r2 0)) T else bif iEq i.op 64 then fnT (fun e => clPG e (vmF s) (nam s i.r1 8) (nam s i.r2 0)) T else bif iEq i.op 65 then fnT (fun e => clPH e (nam s i.r2 0) (nam s i.r1 6)) T else
  bif do6 i && doC i then fun _ => noEn else T
theorem do_eq (s : Sta) (i : Ins) (T : Tab) : doE ops doZ s i T = lf (doN s i T) (doT s i T) := by
  have hX : doX ops i T = lf (bif doC i then (allN T : Nat) else 0) (bif doC i then fun _ => noEn else T) := by
    unfold doX doC
    rw [lf_pick]; rfl
  unfold doE doN doT do6
  rw [hX]
  cases iEq i.op 63 with
  | true => rw [Om.pick_t]; rfl
  | false =>
  rw [Om.pick_f]
  cases iEq i.op 64 with
  | true => rw [Om.pick_t]; rfl
  | false =>
  rw [Om.pick_f]
  cases iEq i.op 65 with
  | true => rw [Om.pick_t]; rfl
  | false =>
  rw [Om.pick_f]
  cases iEq i.op 54 with
  | true => rw [Om.pick_t, Om.pick_t]; rfl
  | false =>
  rw [Om.pick_f]
  cases iEq i.op 55 with
  | true => rw [Om.pick_t, Om.pick_t]; rfl
  | false =>
  rw [Om.pick_f]
  cases iEq i.op 56 with
  | true => rw [Om.pick_t, Om.pick_t]; rfl
  | false =>
  rw [Om.pick_f]
  cases iEq i.op 57 with
  | true => rw [Om.pick_t, Om.pick_t]; rfl
  | false =>
  rw [Om.pick_f]
  cases iEq i.op 58 with
  | true => rw [Om.pick_t, Om.pick_t]; rfl
  | false =>
  rw [Om.pick_f]
  cases iEq i.op 59 with
  | true => rw [Om.pick_t]; rfl
  | false => rw [Om.pick_f]; rfl
theorem do_small (s : Sta) (i : Ins) (T : Tab) : Small Try.prog 33 [.pt 0 [] tlbSh, staA s, insA i] (mem1 (tlbA T)) (.it .i64 (doN s i T)) (mem1 (tlbA (doT s i T))) :=
  small_ok mix fair PC_ok okHo2 (f := 33) ⟨Try.func33, of_decide_eq_true (by kernel_rfl)⟩ (fun c _ => OvOk_none c) ((doLaw ops doZ s i T).trans (by rw [do_eq]; rfl)) rfl rfl rfl rfl rfl rfl
theorem norm_ins (a : AV) : norm insSh a = insA (deIns a) := rfl
def doRow : MRow := rowB tlbSh [staSh, insSh] (fun g t => .it .i64 (doN (deSta (g 0)) (deIns (g 1)) (deT t))) (fun g t => tlbA (doT (deSta (g 0)) (deIns (g 1)) (deT t)))
theorem doRow_ok : MRowOk Try.prog 33 doRow := rowB_ok rfl rfl (fun _ _ => rfl) (fun _ _ => rfl) fun g t => do_small (deSta (g 0)) (deIns (g 1)) (deT t)
/- The document's. -/
def rdP (r : Int) : Bool := bif iLt 0 r then iLt r 32 else false
theorem rdP_in {r : Int} (h : rdP r = true) : iIn r 32 = true := by
  unfold rdP at h
  cases h0 : iLt 0 r with
  | false => rw [h0] at h; cases h
  | true =>
    rw [h0, cond_true] at h
    have := iLt_true.1 h0
    have := iLt_true.1 h
    exact iIn_true.2 (by omega)
def rdA1 (s : Sta) (i : Ins) : Int := bif rdP i.r1 then bif iEq i.op 65 then iConv .i64 (iAnd .u64 (iShr .u64 (s.X i.r1.toNat) 6) 255) else iConv .i64 (iAnd .u64 (iShr .u64 (s.X i.r1.toNat) 8) 255) else -1
def rdB1 (s : Sta) (i : Ins) : Int := bif rdP i.r2 then iConv .i64 (iAnd .u64 (s.X i.r2.toNat) 255) else -1
theorem rdE_eq (s : Sta) (i : Ins) (T : Tab) : rdE ops doZ s i T = rdSw ops doZ s i T (rdA1 s i) (rdB1 s i) := by
  have hB : ∀ a, rdBb ops doZ s i T a = rdSw ops doZ s i T a (rdB1 s i) := fun a => by
    unfold rdBb rdB1
    cases h : rdP i.r2 with
    | true => rw [show (bif iLt 0 i.r2 then iLt i.r2 32 else false) = true from h, Om.pick_t, rdP_in h, land_t]; rfl
    | false => rw [show (bif iLt 0 i.r2 then iLt i.r2 32 else false) = false from h, Om.pick_f]; rfl
  unfold rdE rdA1
  rw [hB, hB, hB]
  cases h : rdP i.r1 with
  | true =>
    rw [show (bif iLt 0 i.r1 then iLt i.r1 32 else false) = true from h, Om.pick_t, rdP_in h, land_t, land_t]
    cases iEq i.op 65 with
    | true => rw [Om.pick_t]; rfl
    | false => rw [Om.pick_f]; rfl
  | false => rw [show (bif iLt 0 i.r1 then iLt i.r1 32 else false) = false from h, Om.pick_f]; rfl

/- The document's fence of an instruction: contract. -/
def tbF (n : Int) : Bool := bif bif iEq n 384 then true else iEq n 640 then true else iEq n 1664
def rdC (s : Sta) (i : Ins) : Bool := (bif bif iLe 54 i.op then iLe i.op 59 else false then sallyportref8_Writes0 i.op i.rd i.r1 i.r2 i.im i.cs else false) && (bif s.V then tbF (sallyportref8_Redirect0 i.cs) else tbF i.cs)
def rdoN (s : Sta) (i : Ins) (T : Tab) : Int :=
  bif iEq i.op 63 then (zpN (rsP (sfVm s) s.V (rdA1 s i) (rdB1 s i)) T 16 : Nat) else bif iEq i.op 64 then (zpN (rsP (sfVm s) true (rdA1 s i) (rdB1 s i)) T 16 : Nat) else bif iEq i.op 65 then (zpN (rhP (rdA1 s i) (rdB1 s i)) T 16 : Nat) else
  bif rdC s i then (allN T : Nat) else 0
def rdoT (s : Sta) (i : Ins) (T : Tab) : Tab :=
  bif iEq i.op 63 then zpT (rsP (sfVm s) s.V (rdA1 s i) (rdB1 s i)) T 16 else bif iEq i.op 64 then zpT (rsP (sfVm s) true (rdA1 s i) (rdB1 s i)) T 16 else bif iEq i.op 65 then zpT (rhP (rdA1 s i) (rdB1 s i)) T 16 else
  bif rdC s i then fun _ => noEn else T
theorem rdo_eq (s : Sta) (i : Ins) (T : Tab) : rdE ops doZ s i T = lf (rdoN s i T) (rdoT s i T) := by
  have hF : rdFl ops T = lf (allN T : Nat) fun _ => noEn := by
    unfold rdFl
    cases h : Nat.beq (allN T) 0 with
    | true =>
      have e := Nat.eq_of_beq_eq_true h
      rw [show ops.n T = allN T from rfl, h, Om.pick_t, e]; rfl
    | false => rw [show ops.n T = allN T from rfl, h, Om.pick_f]
  have hT : ∀ n, rdTb ops n T = lf (bif tbF n then (allN T : Nat) else 0) (bif tbF n then fun _ => noEn else T) := fun n => by
    unfold rdTb
    rw [hF]
    exact lf_pick _ _ _ _ _
  rw [rdE_eq]
  unfold rdSw rdoN rdoT rdC
  rw [hT, hT, lf_pick, lf_pick, lf_pick, lf_pick, lf_pick]
  cases iEq i.op 63 <;> cases iEq i.op 64 <;> cases iEq i.op 65 <;> cases (bif bif iLe 54 i.op then iLe i.op 59 else false then sallyportref8_Writes0 i.op i.rd i.r1 i.r2 i.im i.cs else false) <;> cases s.V <;> rfl
theorem rdo_small (s : Sta) (i : Ins) (T : Tab) : Small Try.prog 34 [.pt 0 [] tlbSh, staA s, insA i] (mem1 (tlbA T)) (.it .i64 (rdoN s i T)) (mem1 (tlbA (rdoT s i T))) :=
  small_ok mix fair PC_ok okHo2 (f := 34) ⟨Try.func34, of_decide_eq_true (by kernel_rfl)⟩ (fun c _ => OvOk_none c) ((rdLaw ops doZ s i T).trans (by rw [rdo_eq]; rfl)) rfl rfl rfl rfl rfl rfl
def rdoRow : MRow := rowB tlbSh [staSh, insSh] (fun g t => .it .i64 (rdoN (deSta (g 0)) (deIns (g 1)) (deT t))) (fun g t => tlbA (rdoT (deSta (g 0)) (deIns (g 1)) (deT t)))
theorem rdoRow_ok : MRowOk Try.prog 34 rdoRow := rowB_ok rfl rfl (fun _ _ => rfl) (fun _ _ => rfl) fun g t => rdo_small (deSta (g 0)) (deIns (g 1)) (deT t)

/- The program's fence of an instruction and the document's: the same. -/
theorem ix_step {b : Bool} {c n i r : Int} (h1 : c = n → fence_table0 i = b) (h2 : c ≠ n → fence_table0 r = b) : fence_table0 (bif iEq c n then i else r) = b := by
  cases h : iEq c n with
  | true => exact h1 (iEq_true.1 h)
  | false => exact h2 (iEq_false.1 h)
theorem table_eq (n : Int) : fence_table0 (csr_Index0 n) = tbF n := by
  unfold csr_Index0
  iterate 29 (refine ix_step (fun h => by subst h; rfl) (fun h => ?_))
  unfold tbF
  rw [iEq_false.2 (show n ≠ 384 by omega), iEq_false.2 (show n ≠ 640 by omega), iEq_false.2 (show n ≠ 1664 by omega)]
  rfl
theorem re_step {b : Bool} {c n i r : Int} (h1 : n = c → tbF i = b) (h2 : n ≠ c → tbF r = b) : tbF (bif iEq n c then i else r) = b := by
  cases h : iEq n c with
  | true => exact h1 (iEq_true.1 h)
  | false => exact h2 (iEq_false.1 h)
theorem redir_eq (n : Int) : tbF (sallyportref8_Redirect0 n) = tbF n := by
  unfold sallyportref8_Redirect0
  iterate 8 (refine re_step (fun h => by subst h; rfl) (fun h => ?_))
  rfl
theorem do6_eq (i : Ins) : do6 i = bif iLe 54 i.op then iLe i.op 59 else false := by
  unfold do6
  by_cases h : 54 ≤ i.op ∧ i.op ≤ 59
  · rw [iLe_true.2 h.1, iLe_true.2 h.2]
    have : i.op = 54 ∨ i.op = 55 ∨ i.op = 56 ∨ i.op = 57 ∨ i.op = 58 ∨ i.op = 59 := by omega
    rcases this with e | e | e | e | e | e <;> rw [e] <;> rfl
  · have h0 : (bif iLe 54 i.op then iLe i.op 59 else false) = false := by
      cases h1 : iLe 54 i.op with
      | false => rfl
      | true => rw [cond_true, iLe_false]; have := iLe_true.1 h1; omega
    rw [h0, iEq_false.2 (show i.op ≠ 54 by omega), iEq_false.2 (show i.op ≠ 55 by omega), iEq_false.2 (show i.op ≠ 56 by omega), iEq_false.2 (show i.op ≠ 57 by omega), iEq_false.2 (show i.op ≠ 58 by omega), iEq_false.2 (show i.op ≠ 59 by omega)]
    rfl
theorem doC_eq (s : Sta) (i : Ins) : (do6 i && doC i) = rdC s i := by
  unfold rdC doC
  rw [do6_eq, table_eq, redir_eq]
  have hW : sallyportref8_Writes0 i.op i.rd i.r1 i.r2 i.im i.cs = legal_Writes0 i.op i.rd i.r1 i.r2 i.im i.cs := rfl
  rw [hW]
  cases (bif iLe 54 i.op then iLe i.op 59 else false) <;> cases legal_Writes0 i.op i.rd i.r1 i.r2 i.im i.cs <;> cases s.V <;> cases tbF i.cs <;> rfl
theorem nam_eq (s : Sta) (r k : Int) (v : Int) (h : iConv .i64 (word_Bits0 (s.X r.toNat) k 8) = v) : nam s r k = bif rdP r then v else -1 := by
  unfold nam fence_named0 rdP
  rw [h]
  by_cases h1 : 0 < r
  · rw [iLt_true.2 h1, iLe_false.2 (show 0 < r by omega)]
    by_cases h2 : r < 32
    · rw [iLt_true.2 h2, iLe_false.2 (show r < 32 by omega)]; rfl
    · rw [iLt_false.2 (show 32 ≤ r by omega), iLe_true.2 (show 32 ≤ r by omega)]; rfl
  · rw [iLt_false.2 (show r ≤ 0 by omega), iLe_true.2 (show r ≤ 0 by omega)]; rfl
theorem shr0 (x : Int) : iShr .u64 x 0 = x := by
  show x.fdiv 1 = x
  simp
theorem nam_b (s : Sta) (i : Ins) : nam s i.r2 0 = rdB1 s i := nam_eq s i.r2 0 _ (by
  unfold word_Bits0
  rw [show word_part0 0 8 = 0 by kernel_rfl, show word_mask0 (word_part1 0 8) = 255 by kernel_rfl, shr0])
theorem nam_a8 (s : Sta) (i : Ins) (h : iEq i.op 65 = false) : nam s i.r1 8 = rdA1 s i := by
  have e := nam_eq s i.r1 8 (iConv .i64 (iAnd .u64 (iShr .u64 (s.X i.r1.toNat) 8) 255)) (by
    unfold word_Bits0
    rw [show word_part0 8 8 = 8 by kernel_rfl, show word_mask0 (word_part1 8 8) = 255 by kernel_rfl])
  rw [e]
  unfold rdA1
  rw [h]; rfl
theorem nam_a6 (s : Sta) (i : Ins) (h : iEq i.op 65 = true) : nam s i.r1 6 = rdA1 s i := by
  have e := nam_eq s i.r1 6 (iConv .i64 (iAnd .u64 (iShr .u64 (s.X i.r1.toNat) 6) 255)) (by
    unfold word_Bits0
    rw [show word_part0 6 8 = 6 by kernel_rfl, show word_mask0 (word_part1 6 8) = 255 by kernel_rfl])
  rw [e]
  unfold rdA1
  rw [h]; rfl

/- FenceTells: what either side counts and leaves is the same. -/
/-- Tables that are the same at every place. -/
def Eq16 (T S : Tab) : Prop := ∀ i, i < 16 → T i = S i
theorem oks_eq {T S : Tab} (h : Eq16 T S) : oks T = oks S := by
  unfold oks
  congr 1
  apply List.map_congr_left
  intro i hi
  exact h i (List.mem_range.1 hi)
theorem all_same {T S : Tab} (h : Eq16 T S) : allN T = allN S ∧ allE T = allE S := by
  rw [(all_eq T).1, (all_eq T).2, (all_eq S).1, (all_eq S).2, oks_eq h]
  exact ⟨rfl, rfl⟩
theorem do_same {T : Tab} (hu : Uniq T) (s : Sta) (i : Ins) : doN s i T = rdoN s i T ∧ Eq16 (doT s i T) (rdoT s i T) := by
  unfold doN rdoN doT rdoT
  rw [doC_eq]
  cases h63 : iEq i.op 63 with
  | true =>
    have h65 : iEq i.op 65 = false := by rw [iEq_true.1 h63]; rfl
    rw [nam_a8 s i h65, nam_b]
    exact ⟨congrArg Int.ofNat (fn_zpN _ _ T fun e => rs_sf s _ _ e), fun j hj => fn_zpT _ _ hu (fun e => rs_sf s _ _ e) j hj⟩
  | false =>
    cases h64 : iEq i.op 64 with
    | true =>
      have h65 : iEq i.op 65 = false := by rw [iEq_true.1 h64]; rfl
      rw [nam_a8 s i h65, nam_b]
      exact ⟨congrArg Int.ofNat (fn_zpN _ _ T fun e => rs_gu s _ _ e), fun j hj => fn_zpT _ _ hu (fun e => rs_gu s _ _ e) j hj⟩
    | false =>
      cases h65 : iEq i.op 65 with
      | true =>
        rw [nam_a6 s i h65, nam_b]
        exact ⟨congrArg Int.ofNat (fn_zpN _ _ T fun e => rh_ho _ _ e), fun j hj => fn_zpT _ _ hu (fun e => rh_ho _ _ e) j hj⟩
      | false =>
        refine ⟨rfl, fun j hj => ?_⟩
        rfl
theorem sf_same {T : Tab} (hu : Uniq T) (s : Sta) (p a : Int) : ((fnN (sfP s p a) T : Nat) : Int) = (zpN (rsP (sfVm s) s.V p a) T 16 : Nat) ∧ Eq16 (fnT (sfP s p a) T) (zpT (rsP (sfVm s) s.V p a) T 16) :=
  ⟨congrArg Int.ofNat (fn_zpN _ _ T fun e => rs_sf s p a e), fun j hj => fn_zpT _ _ hu (fun e => rs_sf s p a e) j hj⟩
theorem gu_same {T : Tab} (hu : Uniq T) (s : Sta) (p a : Int) : ((fnN (fun e => clPG e (vmF s) p a) T : Nat) : Int) = (zpN (rsP (sfVm s) true p a) T 16 : Nat) ∧ Eq16 (fnT (fun e => clPG e (vmF s) p a) T) (zpT (rsP (sfVm s) true p a) T 16) :=
  ⟨congrArg Int.ofNat (fn_zpN _ _ T fun e => rs_gu s p a e), fun j hj => fn_zpT _ _ hu (fun e => rs_gu s p a e) j hj⟩
theorem ho_same {T : Tab} (hu : Uniq T) (p a : Int) : ((fnN (fun e => clPH e a p) T : Nat) : Int) = (zpN (rhP p a) T 16 : Nat) ∧ Eq16 (fnT (fun e => clPH e a p) T) (zpT (rhP p a) T 16) :=
  ⟨congrArg Int.ofNat (fn_zpN _ _ T fun e => rh_ho p a e), fun j hj => fn_zpT _ _ hu (fun e => rh_ho p a e) j hj⟩

/- FenceTells: the fills in the law's own memory; the law's table of contracts. -/
def f2L : Lq := { n := 32, n0 := 6, ts := [0, 4, 5, 6], mv := [], ids := [(0, false), (1, true), (2, true), (3, true), (4, true), (5, true)] }
def f2S (n n' : Nat) (E : Tab) (s1 : Sta) (i2 : Ins) (s3 : Sta) (T R : Tab) (i : Int) : List AV := [.sl 0 [] 0 n false, .pt 4 [] tlbSh, .pt 5 [] tlbSh, .it .i64 i, elA n' E, staA s1, insA i2, staA s3, tlbA T, tlbA R]
theorem f2A (Q : Ops) (n n' : Nat) (E : Tab) (s1 : Sta) (i2 : Ins) (s3 : Sta) (T R : Tab) (i : Int) : evC Try.prog okT PC (HH2 (MTq Q) (MTq2 Q)) RW NOV 101 false (bodyOf Try.f25.body 0) (f2L.F (f2S n n' E s1 i2 s3 T R i)) (f2L.M (f2S n n' E s1 i2 s3 T R i)) (grabJ 0 (grabQ f2L)) =
    some (iLt i n && (iIn i n && (iIn i n && true)), .tup (.it .i64 0 :: f2S n n' E s1 i2 s3 (Q.fi T (E (i.toNat + 0)) i) (Q.fi R (E (i.toNat + 0)) i) (iAdd .i64 i 1))) := by kernel_rfl
theorem f2X (Q : Ops) (n n' : Nat) (E : Tab) (s1 : Sta) (i2 : Ins) (s3 : Sta) (T R : Tab) (i : Int) : evC Try.prog okT PC (HH2 (MTq Q) (MTq2 Q)) RW NOV 101 false (bodyOf Try.f25.body 0) (f2L.F (f2S n n' E s1 i2 s3 T R i)) (f2L.M (f2S n n' E s1 i2 s3 T R i)) (grabJ 2 (grabQ f2L)) =
    some (!iLt i n && true, .tup (.it .i64 2 :: f2S n n' E s1 i2 s3 T R i)) := by kernel_rfl
def f2Ts : List Tm := [.fx .ref, .fx .ref, .fx .ref, .fx (.int .i64), .ar entSh, .fx staSh, .fx insSh, .fx staSh, .fx tlbSh, .fx tlbSh]
def f2E (W : FlW) (g : Nat → AV) : List AV := f2S (lenS (g 0)) (lenA (g 4)) (arT (g 4)) (deSta (g 5)) (deIns (g 6)) (deSta (g 7)) (W.ft (lenS (g 0)) (arT (g 4)) (deT (g 8))) (W.ft (lenS (g 0)) (arT (g 4)) (deT (g 9))) (lenS (g 0) : Nat)
def f2Go (W : FlW) : (Nat → AV) → Kc → Option Out := goJ (fun g => isSlq 0 false (g 0) && (isPt 4 tlbSh (g 1) && isPt 5 tlbSh (g 2))) (fun g => iEq (g 3).num 0 && iLt (lenS (g 0)) 1000000) .normal (fun g => f2L.F (f2E W g)) (fun g => f2L.M (f2E W g))
theorem f2Go_ok : GoesT Try.prog 0 (.loop (bodyOf Try.f25.body 0)) f2L f2Ts (f2Go flW) := goT_ok fun g h1 h2 => by
  simp only [Bool.and_eq_true] at h1 h2
  obtain ⟨c0, c1, c2⟩ := h1
  obtain ⟨d1, d2⟩ := h2
  have hN := iLt_true.1 d2
  refine ⟨noGd_all (L := f2L) rfl, fun fr m hm hb => ?_⟩
  have hst : norms (tmS g f2Ts 0) 0 g = f2S (lenS (g 0)) (lenA (g 4)) (arT (g 4)) (deSta (g 5)) (deIns (g 6)) (deSta (g 7)) (deT (g 8)) (deT (g 9)) 0 := by
    have : norms (tmS g f2Ts 0) 0 g = [g 0, g 1, g 2, .it .i64 (g 3).num, elA (lenA (g 4)) (arT (g 4)), staA (deSta (g 5)), insA (deIns (g 6)), staA (deSta (g 7)), tlbA (deT (g 8)), tlbA (deT (g 9))] := rfl
    rw [this, iEq_true.1 d1, isPt_ok c1, isPt_ok c2]
    unfold f2S
    rw [← isSlq_ok c0]
  rw [hst] at hb
  refine loopJ_block (F := fun j => f2L.F (f2S (lenS (g 0)) (lenA (g 4)) (arT (g 4)) (deSta (g 5)) (deIns (g 6)) (deSta (g 7)) (fiT (arT (g 4)) (deT (g 8)) j) (fiT (arT (g 4)) (deT (g 9)) j) (j : Nat))) (M := fun j => f2L.M (f2S (lenS (g 0)) (lenA (g 4)) (arT (g 4)) (deSta (g 5)) (deIns (g 6)) (deSta (g 7)) (fiT (arT (g 4)) (deT (g 8)) j) (fiT (arT (g 4)) (deT (g 9)) j) (j : Nat))) (n := lenS (g 0)) (c := 2)
    (fun j hj => ?_) ?_ (by decide) hm hb (e := .exit 0) rfl
  · have hE := f2A ops (lenS (g 0)) (lenA (g 4)) (arT (g 4)) (deSta (g 5)) (deIns (g 6)) (deSta (g 7)) (fiT (arT (g 4)) (deT (g 8)) j) (fiT (arT (g 4)) (deT (g 9)) j) ((j : Nat) : Int)
    rw [iAdd_b j (by omega), iLt_true.2 (show (j : Int) < (lenS (g 0) : Nat) by omega), iIn_true.2 (show 0 ≤ (j : Int) ∧ (j : Int) < (lenS (g 0) : Nat) by omega), Nat.add_zero, Int.toNat_natCast] at hE
    exact turnQ (L := f2L) rfl (grabJ_part 0 (Part.refl _)) (noGd_all (L := f2L) rfl) hE rfl rfl
  · exact turnQ (L := f2L) rfl (grabJ_part 2 (Part.refl _)) (noGd_all (L := f2L) rfl) (f2X ops (lenS (g 0)) (lenA (g 4)) (arT (g 4)) (deSta (g 5)) (deIns (g 6)) (deSta (g 7)) (fiT (arT (g 4)) (deT (g 8)) (lenS (g 0))) (fiT (arT (g 4)) (deT (g 9)) (lenS (g 0))) ((lenS (g 0) : Nat) : Int)) (by rw [iLt_false.2 (Int.le_refl _)]; rfl) rfl
theorem f2_ov : ∀ c, Try.f25.body = some c → OvOk Try.prog (ovT 0 f2L f2Ts (f2Go flW)) c := fun c hc => ovT_ok rfl f2Go_ok fun x hx h => by
  rw [fl_blk c hc] at hx
  simp only [List.mem_cons, List.not_mem_nil, or_false] at hx
  rcases hx with rfl | rfl <;> first | rfl | (cases h; done)
structure TeZ where
  cl : Sta → Sta
  dn : Sta → Ins → Tab → Int
  dt : Sta → Ins → Tab → Tab
  en : Sta → Ins → Tab → Int
  et : Sta → Ins → Tab → Tab
  sm : Nat → Nat → Tab → Tab → Bool
noncomputable def MTt (Q : Ops) (Z : DoZ) (V : TeZ) : List (FuncId × MRow) := (23, row0 (.bl true)) :: (24, rowV staSh fun a => staA (V.cl (deSta a))) ::
  (33, rowB tlbSh [staSh, insSh] (fun g t => .it .i64 (V.dn (deSta (g 0)) (deIns (g 1)) (deT t))) (fun g t => tlbA (V.dt (deSta (g 0)) (deIns (g 1)) (deT t)))) ::
  (34, rowB tlbSh [staSh, insSh] (fun g t => .it .i64 (V.en (deSta (g 0)) (deIns (g 1)) (deT t))) (fun g t => tlbA (V.et (deSta (g 0)) (deIns (g 1)) (deT t)))) :: (27, samRow V.sm) :: MTo Q Z
def teZ : TeZ := ⟨cleanF, doN, doT, rdoN, rdoT, smF⟩
theorem MTt_ok : MOk Try.prog (MTt ops doZ teZ) := ⟨row0_ok rfl known14_small, cleanRow_ok, doRow_ok, rdoRow_ok, sam14_ok, MTo_ok⟩
noncomputable def hdT (Q : Ops) (Z : DoZ) (V : TeZ) (W : FlW) : Hd := hIn PC (HH2 (MTq Q) (MTq2 Q)) (ovT 0 f2L f2Ts (f2Go W)) 25 Try.f25 (HH2 (MTt Q Z V) (MTq2 Q))
theorem okHt : HSound Try.prog (hdT ops doZ teZ flW) := hIn_ok PC_ok okH p25 f2_ov (HH2_ok MTt_ok MTq2_ok)

/- FenceTells, evaluated. -/
/-- All of a table that holds something. -/
def rowG (Q : Ops) : MRow := fun args m => match args with
  | [.pt id [] r] => bif r.beq tlbSh then
      (match m.get id with
      | some (.cells t true) => bif t.shape.beq tlbSh then some (some (!Nat.beq (Q.n (deT t)) 0), [id], .sl 1 [] 0 (Q.n (deT t)) true, mem2 (tlbA (deT t)) (.arr (Q.n (deT t)) entSh fun j => enA (Q.el (deT t) j))) else none
      | _ => none) else none
  | _ => none
theorem rowG_ok {f : FuncId} (hall : MRow2Ok Try.prog f allRow) : MRowOk Try.prog f (rowG ops) := fun args m c τ v m1 he hc => by
  unfold rowG at he
  split at he <;> try (cases he; done)
  rename_i id r
  cases hb : r.beq tlbSh with
  | false => rw [hb] at he; cases he
  | true =>
  rw [hb, cond_true] at he
  split at he <;> try (cases he; done)
  rename_i t hm
  cases hb2 : t.shape.beq tlbSh with
  | false => rw [hb2] at he; cases he
  | true =>
  rw [hb2, cond_true] at he
  cases he
  have h0 : (!Nat.beq (allN (deT t)) 0) = true := by
    rcases hc with hc | hc
    · cases hc
    · exact Option.some.inj hc
  have h0 : Nat.beq (allN (deT t)) 0 = false := by
    cases h : Nat.beq (allN (deT t)) 0 with
    | true => rw [h] at h0; cases h0
    | false => rfl
  have hF : allRow [.pt id [] r] m = some (Nat.beq (allN (deT t)) 0, ([id], .nsl, mem1 (tlbA (deT t))), ([id], .sl 1 [] 0 (allN (deT t)) true, mem2 (tlbA (deT t)) (.arr (allN (deT t)) entSh fun j => enA (allE (deT t) j)))) := by
    unfold allRow rowZ
    simp only [hb, cond_true, hm, hb2]
  obtain ⟨_, h2⟩ := hall _ _ _ _ _ hF
  obtain ⟨a0, m0, q1, q2, q3⟩ := h2 h0
  exact ⟨a0, m0, q1, q2, q3⟩
theorem rowOr_ok {f : FuncId} (hall : MRow2Ok Try.prog f allRow) : MRowOk Try.prog f (rowO ops) := fun args m c τ v m1 he hc => by
  unfold rowO at he
  split at he <;> try (cases he; done)
  rename_i id r
  cases hb : r.beq tlbSh with
  | false => rw [hb] at he; cases he
  | true =>
  rw [hb, cond_true] at he
  split at he <;> try (cases he; done)
  rename_i t hm
  cases hb2 : t.shape.beq tlbSh with
  | false => rw [hb2] at he; cases he
  | true =>
  rw [hb2, cond_true] at he
  cases he
  have h0 : Nat.beq (allN (deT t)) 0 = true := by
    rcases hc with hc | hc
    · cases hc
    · exact Option.some.inj hc
  have hF : allRow [.pt id [] r] m = some (Nat.beq (allN (deT t)) 0, ([id], .nsl, mem1 (tlbA (deT t))), ([id], .sl 1 [] 0 (allN (deT t)) true, mem2 (tlbA (deT t)) (.arr (allN (deT t)) entSh fun j => enA (allE (deT t) j)))) := by
    unfold allRow rowZ
    simp only [hb, cond_true, hm, hb2]
  obtain ⟨h1, _⟩ := hall _ _ _ _ _ hF
  obtain ⟨a0, m0, q1, q2, q3⟩ := h1 h0
  exact ⟨a0, m0, q1, q2, q3⟩
noncomputable def MTn (Q : Ops) (Z : DoZ) (V : TeZ) : List (FuncId × MRow) := (14, rowG Q) :: (20, rowG Q) :: MTt Q Z V
noncomputable def MTe0 (Q : Ops) (Z : DoZ) (V : TeZ) : List (FuncId × MRow) := (14, rowO Q) :: (20, rowO Q) :: MTt Q Z V
theorem MTn_ok : MOk Try.prog (MTn ops doZ teZ) := ⟨rowG_ok allRow_ok, rowG_ok rallRow_ok, MTt_ok⟩
theorem MTe0_ok : MOk Try.prog (MTe0 ops doZ teZ) := ⟨rowOr_ok allRow_ok, rowOr_ok rallRow_ok, MTt_ok⟩
noncomputable def hdN (Q : Ops) (Z : DoZ) (V : TeZ) (W : FlW) : Hd := hIn PC (HH2 (MTq Q) (MTq2 Q)) (ovT 0 f2L f2Ts (f2Go W)) 25 Try.f25 (HH2 (MTn Q Z V) (MTq2 Q))
noncomputable def hdE (Q : Ops) (Z : DoZ) (V : TeZ) (W : FlW) : Hd := hIn PC (HH2 (MTq Q) (MTq2 Q)) (ovT 0 f2L f2Ts (f2Go W)) 25 Try.f25 (HH2 (MTe0 Q Z V) (MTq2 Q))
noncomputable def hdZ (Q : Ops) (Z : DoZ) (V : TeZ) : Hd := hIn PC (HH2 (MTq Q) (MTq2 Q)) NOV 25 Try.f25 (HH2 (MTe0 Q Z V) (MTq2 Q))
theorem okHn : HSound Try.prog (hdN ops doZ teZ flW) := hIn_ok PC_ok okH p25 f2_ov (HH2_ok MTn_ok MTq2_ok)
theorem okHe0 : HSound Try.prog (hdE ops doZ teZ flW) := hIn_ok PC_ok okH p25 f2_ov (HH2_ok MTe0_ok MTq2_ok)
theorem okHz : HSound Try.prog (hdZ ops doZ teZ) := hIn_ok PC_ok okH p25 (fun c _ => OvOk_none c) (HH2_ok MTe0_ok MTq2_ok)
/- What comes behind the fences: whether as many went, whether the same are left. -/
def lfV (v : Bool) : Out := (true, .tup [.it .i64 0, .bl v])
def lfX (x c1 c2 : Bool) (R : Out) : Out :=
  Om.pick x (Om.land c1 (Om.pick x (Om.land c2 (Om.pick x R (Om.land (!x) (lfV false)))) (Om.land (!x) (Om.land (!x) (lfV false)))))
    (Om.pick x (Om.land c2 (Om.land (!x) (Om.land (!x) (lfV false)))) (Om.land (!x) (Om.land (!x) (lfV false))))
def lfN (Q : Ops) (V : TeZ) (a b : Int) (T R : Tab) : Out := lfX (iEq a b) (!Nat.beq (Q.n T) 0) (!Nat.beq (Q.n R) 0) (Om.land (V.sm (Q.n T) (Q.n R) (Q.el T) (Q.el R)) (lfV (bif iEq a b then true else false)))
def lfE (Q : Ops) (V : TeZ) (a b : Int) (T R : Tab) : Out := lfX (iEq a b) (Nat.beq (Q.n T) 0) (Nat.beq (Q.n R) 0) (lfV (bif iEq a b then true else false))
def ftL (L : Int → Int → Tab → Tab → Out) (Z : DoZ) (V : TeZ) (T : Tab) (s : Sta) (i : Ins) (p a w : Int) : Out :=
  Om.land (iNe 4 0) (Om.pick (iEq (iRem w 4) 0) (L (Z.sn s p a T) (Z.rn s s.V p a T) (Z.st s p a T) (Z.rt s s.V p a T))
    (Om.pick (iEq (iRem w 4) 1) (L (Z.gn s p a T) (Z.rn s true p a T) (Z.gt s p a T) (Z.rt s true p a T))
      (Om.pick (iEq (iRem w 4) 2) (L (Z.hn s p a T) (Z.kn p a T) (Z.ht s p a T) (Z.kt p a T))
        (L (V.dn s i T) (V.en s i T) (V.dt s i T) (V.et s i T)))))
def ftA (n : Nat) (X : Out) : Out := Om.pick (!true) (lfV false) (Om.pick (iLt 40 n) (lfV true) (Om.land (iEq 0 0 && iLt n 1000000) X))
theorem ftN (Q : Ops) (Z : DoZ) (V : TeZ) (W : FlW) (n : Nat) (E : Tab) (s : Sta) (i : Ins) (p a w : Int) : evFn Try.prog okT PC (hdN Q Z V W) RW NOV 101 false Try.f9 [.sl 0 [] 0 n false, staA s, insA i, .it .i64 p, .it .i64 a, .it .u8 w] (entM n E) (finQ onP0) =
    some (ftA n (ftL (lfN Q V) Z V (W.ft n E fun _ => noEn) (V.cl s) i p a w)) := by kernel_rfl
theorem ftE (Q : Ops) (Z : DoZ) (V : TeZ) (W : FlW) (n : Nat) (E : Tab) (s : Sta) (i : Ins) (p a w : Int) : evFn Try.prog okT PC (hdE Q Z V W) RW NOV 101 false Try.f9 [.sl 0 [] 0 n false, staA s, insA i, .it .i64 p, .it .i64 a, .it .u8 w] (entM n E) (finQ onP0) =
    some (ftA n (ftL (lfE Q V) Z V (W.ft n E fun _ => noEn) (V.cl s) i p a w)) := by kernel_rfl
theorem ftZ (Q : Ops) (Z : DoZ) (V : TeZ) (s : Sta) (i : Ins) (p a w : Int) : evFn Try.prog okT PC (hdZ Q Z V) RW NOV 101 false Try.f9 [.nsl, staA s, insA i, .it .i64 p, .it .i64 a, .it .u8 w] Mem.empty (finQ L0) =
    some (ftL (lfE Q V) Z V (fun _ => noEn) (V.cl s) i p a w) := by kernel_rfl

/- FenceTells: the law, for all arguments. -/
theorem eqX_refl' (e : En) : eqX e e = true := by
  have h : ∀ n : Int, iEq n n = true := fun n => iEq_true.2 rfl
  unfold eqX
  cases e.ok <;> cases e.v <;> simp [h]
theorem smF_refl' {n : Nat} {E : Tab} (h : n ≤ 16) : smF n n E E = true := by
  unfold smF
  simp only [Bool.and_eq_true, Nat.blt_eq]
  exact ⟨by omega, by simp, upTo_all fun i _ => eqX_refl' _⟩
theorem p9 : Plain Try.prog 9 Try.f9 := ⟨Try.func9, of_decide_eq_true (by kernel_rfl)⟩
theorem lf_eq {a b : Int} {T R : Tab} (hab : a = b) (h : Eq16 T R) : (Nat.beq (allN T) 0 = true → lfE ops teZ a b T R = lfV true) ∧ (Nat.beq (allN T) 0 = false → lfN ops teZ a b T R = lfV true) := by
  subst hab
  obtain ⟨hn, he⟩ := all_same h
  refine ⟨fun h0 => ?_, fun h0 => ?_⟩
  · unfold lfE lfX
    rw [show ops.n = allN from rfl, ← hn, h0, iEq_true.2 rfl]
    rfl
  · have hs : smF (allN T) (allN T) (allE T) (allE T) = true := smF_refl' (by rw [(all_eq _).1]; exact oks_len _)
    unfold lfN lfX
    rw [show ops.n = allN from rfl, show ops.el = allE from rfl, show teZ.sm = smF from rfl, ← hn, ← he, h0, hs, iEq_true.2 rfl]
    rfl
theorem ft_leaf {T : Tab} (hu : Uniq T) (s : Sta) (i : Ins) (p a w : Int) : ∃ x y T' R', x = y ∧ Eq16 T' R' ∧ ∀ L, ftL L doZ teZ T s i p a w = Om.land (iNe 4 0) (L x y T' R') := by
  unfold ftL
  cases iEq (iRem w 4) 0 with
  | true => exact ⟨_, _, _, _, (sf_same hu s p a).1, (sf_same hu s p a).2, fun L => by rw [Om.pick_t]; rfl⟩
  | false =>
  cases iEq (iRem w 4) 1 with
  | true => exact ⟨_, _, _, _, (gu_same hu s p a).1, (gu_same hu s p a).2, fun L => by rw [Om.pick_f, Om.pick_t]; rfl⟩
  | false =>
  cases iEq (iRem w 4) 2 with
  | true => exact ⟨_, _, _, _, (ho_same hu p a).1, (ho_same hu p a).2, fun L => by rw [Om.pick_f, Om.pick_f, Om.pick_t]; rfl⟩
  | false => exact ⟨_, _, _, _, (do_same hu s i).1, (do_same hu s i).2, fun L => by rw [Om.pick_f, Om.pick_f, Om.pick_f]; rfl⟩
theorem ft_small (n : Nat) (E : Tab) (s : Sta) (i : Ins) (p a w : Int) : ∃ m', Small Try.prog 9 [.sl 0 [] 0 n false, staA s, insA i, .it .i64 p, .it .i64 a, .it .u8 w] (entM n E) (.bl true) m' := by
  obtain ⟨x, y, T', R', hxy, hTR, hL⟩ := ft_leaf (fi_uniq E n) (cleanF s) i p a w
  obtain ⟨l1, l2⟩ := lf_eq hxy hTR
  have hN := ftN ops doZ teZ flW n E s i p a w
  have hE := ftE ops doZ teZ flW n E s i p a w
  unfold ftA at hN hE
  rw [show (!true) = false from rfl, Om.pick_f] at hN hE
  cases h40 : iLt 40 (n : Int) with
  | true =>
    rw [h40, Om.pick_t] at hE
    exact ⟨_, small_ok mix fair PC_ok okHe0 p9 (fun c _ => OvOk_none c) hE rfl rfl rfl rfl rfl rfl⟩
  | false =>
    have h40' := iLt_false.1 h40
    rw [h40, Om.pick_f, iLt_true.2 (show (n : Int) < 1000000 by omega), show flW.ft n E (fun _ => noEn) = fiT E (fun _ => noEn) n from rfl, show teZ.cl s = cleanF s from rfl, hL] at hN hE
    cases h0 : Nat.beq (allN T') 0 with
    | true =>
      rw [l1 h0] at hE
      exact ⟨_, small_ok mix fair PC_ok okHe0 p9 (fun c _ => OvOk_none c) hE rfl rfl rfl rfl rfl rfl⟩
    | false =>
      rw [l2 h0] at hN
      exact ⟨_, small_ok mix fair PC_ok okHn p9 (fun c _ => OvOk_none c) hN rfl rfl rfl rfl rfl rfl⟩
theorem eq16_empty {T : Tab} (h : ∀ i, i < 16 → (T i).ok = false) : Nat.beq (allN T) 0 = true := by
  rw [(all_eq T).1]
  have : oks T = [] := by
    unfold oks
    rw [List.filter_eq_nil_iff]
    intro e he
    obtain ⟨i, hi, rfl⟩ := List.mem_map.1 he
    rw [h i (List.mem_range.1 hi)]
    decide
  rw [this]; rfl
theorem zp_empty (f : En → Bool) (i : Nat) (hi : i < 16) : (zpT f (fun _ => noEn) 16 i).ok = false := by
  rw [zpT_at f _ 16 i hi]
  cases f noEn <;> rfl
theorem ft_empty {s : Sta} {i : Ins} {p a w x y : Int} {T' R' : Tab} (hR : ∀ L, ftL L doZ teZ (fun _ => noEn) s i p a w = Om.land (iNe 4 0) (L x y T' R')) (hTR : Eq16 T' R') (hall : ∀ i, i < 16 → (R' i).ok = false) : Nat.beq (allN T') 0 = true :=
  eq16_empty fun i hi => by rw [hTR i hi]; exact hall i hi
theorem ft_leaf0 (s : Sta) (i : Ins) (p a w : Int) : ∃ x y T' R', x = y ∧ Eq16 T' R' ∧ Nat.beq (allN T') 0 = true ∧ ∀ L, ftL L doZ teZ (fun _ => noEn) s i p a w = Om.land (iNe 4 0) (L x y T' R') := by
  have hu := uniq_no
  unfold ftL
  cases iEq (iRem w 4) 0 with
  | true => exact ⟨_, _, _, _, (sf_same hu s p a).1, (sf_same hu s p a).2, eq16_empty fun k hk => by rw [(sf_same hu s p a).2 k hk]; exact zp_empty _ k hk, fun L => by rw [Om.pick_t]; rfl⟩
  | false =>
  cases iEq (iRem w 4) 1 with
  | true => exact ⟨_, _, _, _, (gu_same hu s p a).1, (gu_same hu s p a).2, eq16_empty fun k hk => by rw [(gu_same hu s p a).2 k hk]; exact zp_empty _ k hk, fun L => by rw [Om.pick_f, Om.pick_t]; rfl⟩
  | false =>
  cases iEq (iRem w 4) 2 with
  | true => exact ⟨_, _, _, _, (ho_same hu p a).1, (ho_same hu p a).2, eq16_empty fun k hk => by rw [(ho_same hu p a).2 k hk]; exact zp_empty _ k hk, fun L => by rw [Om.pick_f, Om.pick_f, Om.pick_t]; rfl⟩
  | false =>
    refine ⟨_, _, _, _, (do_same hu s i).1, (do_same hu s i).2, eq16_empty fun k hk => ?_, fun L => by rw [Om.pick_f, Om.pick_f, Om.pick_f]; rfl⟩
    rw [(do_same hu s i).2 k hk]
    unfold rdoT
    cases iEq i.op 63 <;> cases iEq i.op 64 <;> cases iEq i.op 65 <;> first | exact zp_empty _ k hk | (cases rdC s i <;> rfl)
theorem ft_small0 (s : Sta) (i : Ins) (p a w : Int) : ∃ m', Small Try.prog 9 [.nsl, staA s, insA i, .it .i64 p, .it .i64 a, .it .u8 w] Mem.empty (.bl true) m' := by
  obtain ⟨x, y, T', R', hxy, hTR, h0, hL⟩ := ft_leaf0 (cleanF s) i p a w
  obtain ⟨l1, _⟩ := lf_eq hxy hTR
  have hE := ftZ ops doZ teZ s i p a w
  rw [show teZ.cl s = cleanF s from rfl, hL, l1 h0] at hE
  exact ⟨_, small_ok mix fair PC_ok okHz p9 (fun c _ => OvOk_none c) hE rfl rfl rfl rfl rfl rfl⟩
theorem ft_law (es : List Dat) (h : All2 Dat.Is [.sli entSh, .pl staSh, .pl insSh, .pl (.int .i64), .pl (.int .i64), .pl (.int .u8)] es) : ∃ m', Small Try.prog 9 (opA es 0) (opM [.sli entSh, .pl staSh, .pl insSh, .pl (.int .i64), .pl (.int .i64), .pl (.int .u8)] es Mem.empty) (.bl true) m' := by
  match es, h with
  | [.no, .pl a1, .pl a4, .pl a2, .pl a3, .pl a5], ⟨_, h1, h4, h2, h3, h5, _⟩ =>
    obtain ⟨p, rfl, _⟩ := of_it h2
    obtain ⟨a, rfl, _⟩ := of_it h3
    obtain ⟨w, rfl, _⟩ := of_it h5
    have e1 : a1 = staA (deSta a1) := by rw [← norm_sta, norm_eq _ _ h1.1 h1.2.1]
    have e4 : a4 = insA (deIns a4) := by rw [← norm_ins, norm_eq _ _ h4.1 h4.2.1]
    rw [e1, e4]
    exact ft_small0 (deSta a1) (deIns a4) p a w
  | [.sl n f, .pl a1, .pl a4, .pl a2, .pl a3, .pl a5], ⟨⟨_, hf⟩, h1, h4, h2, h3, h5, _⟩ =>
    obtain ⟨p, rfl, _⟩ := of_it h2
    obtain ⟨a, rfl, _⟩ := of_it h3
    obtain ⟨w, rfl, _⟩ := of_it h5
    have e1 : a1 = staA (deSta a1) := by rw [← norm_sta, norm_eq _ _ h1.1 h1.2.1]
    have e4 : a4 = insA (deIns a4) := by rw [← norm_ins, norm_eq _ _ h4.1 h4.2.1]
    rw [e1, e4, ent_eq hf]
    exact ft_small n (fun j => deA (f j)) (deSta a1) (deIns a4) p a w

/- FenceParts: rounds; the second fill; rows that are chosen by where the call stands. -/
/- The second fill. -/
def f3L : Lq := { n := 32, n0 := 7, ts := [0, 4, 5, 6], mv := [], ids := [(0, false), (1, true), (2, true), (3, true), (4, true), (5, true), (6, true)] }
def f3S (n n' : Nat) (E : Tab) (s1 s2 : Sta) (T1 R1 T R : Tab) (i : Int) : List AV := [.sl 0 [] 0 n false, .pt 5 [] tlbSh, .pt 6 [] tlbSh, .it .i64 i, elA n' E, staA s1, staA s2, tlbA T1, tlbA R1, tlbA T, tlbA R]
theorem f3A (Q : Ops) (n n' : Nat) (E : Tab) (s1 s2 : Sta) (T1 R1 T R : Tab) (i : Int) : evC Try.prog okT PC (HH2 (MTq Q) (MTq2 Q)) RW NOV 101 false (bodyOf Try.f25.body 0) (f3L.F (f3S n n' E s1 s2 T1 R1 T R i)) (f3L.M (f3S n n' E s1 s2 T1 R1 T R i)) (grabJ 0 (grabQ f3L)) =
    some (iLt i n && (iIn i n && (iIn i n && true)), .tup (.it .i64 0 :: f3S n n' E s1 s2 T1 R1 (Q.fi T (E (i.toNat + 0)) i) (Q.fi R (E (i.toNat + 0)) i) (iAdd .i64 i 1))) := by kernel_rfl
theorem f3X (Q : Ops) (n n' : Nat) (E : Tab) (s1 s2 : Sta) (T1 R1 T R : Tab) (i : Int) : evC Try.prog okT PC (HH2 (MTq Q) (MTq2 Q)) RW NOV 101 false (bodyOf Try.f25.body 0) (f3L.F (f3S n n' E s1 s2 T1 R1 T R i)) (f3L.M (f3S n n' E s1 s2 T1 R1 T R i)) (grabJ 2 (grabQ f3L)) =
    some (!iLt i n && true, .tup (.it .i64 2 :: f3S n n' E s1 s2 T1 R1 T R i)) := by kernel_rfl
def f3Ts : List Tm := [.fx .ref, .fx .ref, .fx .ref, .fx (.int .i64), .ar entSh, .fx staSh, .fx staSh, .fx tlbSh, .fx tlbSh, .fx tlbSh, .fx tlbSh]
def f3E (W : FlW) (g : Nat → AV) : List AV := f3S (lenS (g 0)) (lenA (g 4)) (arT (g 4)) (deSta (g 5)) (deSta (g 6)) (deT (g 7)) (deT (g 8)) (W.ft (lenS (g 0)) (arT (g 4)) (deT (g 9))) (W.ft (lenS (g 0)) (arT (g 4)) (deT (g 10))) (lenS (g 0) : Nat)
def f3Go (W : FlW) : (Nat → AV) → Kc → Option Out := goJ (fun g => isSlq 0 false (g 0) && (isPt 5 tlbSh (g 1) && isPt 6 tlbSh (g 2))) (fun g => iEq (g 3).num 0 && iLt (lenS (g 0)) 1000000) .normal (fun g => f3L.F (f3E W g)) (fun g => f3L.M (f3E W g))
theorem f3Go_ok : GoesT Try.prog 0 (.loop (bodyOf Try.f25.body 0)) f3L f3Ts (f3Go flW) := goT_ok fun g h1 h2 => by
  simp only [Bool.and_eq_true] at h1 h2
  obtain ⟨c0, c1, c2⟩ := h1
  obtain ⟨d1, d2⟩ := h2
  have hN := iLt_true.1 d2
  refine ⟨noGd_all (L := f3L) rfl, fun fr m hm hb => ?_⟩
  have hst : norms (tmS g f3Ts 0) 0 g = f3S (lenS (g 0)) (lenA (g 4)) (arT (g 4)) (deSta (g 5)) (deSta (g 6)) (deT (g 7)) (deT (g 8)) (deT (g 9)) (deT (g 10)) 0 := by
    have : norms (tmS g f3Ts 0) 0 g = [g 0, g 1, g 2, .it .i64 (g 3).num, elA (lenA (g 4)) (arT (g 4)), staA (deSta (g 5)), staA (deSta (g 6)), tlbA (deT (g 7)), tlbA (deT (g 8)), tlbA (deT (g 9)), tlbA (deT (g 10))] := rfl
    rw [this, iEq_true.1 d1, isPt_ok c1, isPt_ok c2]
    unfold f3S
    rw [← isSlq_ok c0]
  rw [hst] at hb
  refine loopJ_block (F := fun j => f3L.F (f3S (lenS (g 0)) (lenA (g 4)) (arT (g 4)) (deSta (g 5)) (deSta (g 6)) (deT (g 7)) (deT (g 8)) (fiT (arT (g 4)) (deT (g 9)) j) (fiT (arT (g 4)) (deT (g 10)) j) (j : Nat))) (M := fun j => f3L.M (f3S (lenS (g 0)) (lenA (g 4)) (arT (g 4)) (deSta (g 5)) (deSta (g 6)) (deT (g 7)) (deT (g 8)) (fiT (arT (g 4)) (deT (g 9)) j) (fiT (arT (g 4)) (deT (g 10)) j) (j : Nat))) (n := lenS (g 0)) (c := 2)
    (fun j hj => ?_) ?_ (by decide) hm hb (e := .exit 0) rfl
  · have hE := f3A ops (lenS (g 0)) (lenA (g 4)) (arT (g 4)) (deSta (g 5)) (deSta (g 6)) (deT (g 7)) (deT (g 8)) (fiT (arT (g 4)) (deT (g 9)) j) (fiT (arT (g 4)) (deT (g 10)) j) ((j : Nat) : Int)
    rw [iAdd_b j (by omega), iLt_true.2 (show (j : Int) < (lenS (g 0) : Nat) by omega), iIn_true.2 (show 0 ≤ (j : Int) ∧ (j : Int) < (lenS (g 0) : Nat) by omega), Nat.add_zero, Int.toNat_natCast] at hE
    exact turnQ (L := f3L) rfl (grabJ_part 0 (Part.refl _)) (noGd_all (L := f3L) rfl) hE rfl rfl
  · exact turnQ (L := f3L) rfl (grabJ_part 2 (Part.refl _)) (noGd_all (L := f3L) rfl) (f3X ops (lenS (g 0)) (lenA (g 4)) (arT (g 4)) (deSta (g 5)) (deSta (g 6)) (deT (g 7)) (deT (g 8)) (fiT (arT (g 4)) (deT (g 9)) (lenS (g 0))) (fiT (arT (g 4)) (deT (g 10)) (lenS (g 0))) ((lenS (g 0) : Nat) : Int)) (by rw [iLt_false.2 (Int.le_refl _)]; rfl) rfl
theorem f25_blk : ∀ c, Try.f25.body = some c → ∀ x ∈ blks c, x.1 = 0 → x.2 = .loop (bodyOf Try.f25.body 0) := fun c hc x hx h => by
  rw [fl_blk c hc] at hx
  simp only [List.mem_cons, List.not_mem_nil, or_false] at hx
  rcases hx with rfl | rfl <;> first | rfl | (cases h; done)
def f25o (W : FlW) : Ov := ovOr (ovT 0 flL flTs (flGo W)) (ovT 0 f3L f3Ts (f3Go W))
theorem f25o_ok : ∀ c, Try.f25.body = some c → OvOk Try.prog (f25o flW) c := fun c hc => ovOr_ok (fl_ov c hc) (ovT_ok rfl f3Go_ok (f25_blk c hc))
/- A block that is not entered. -/
def ovKill (B : Nat) : Ov := fun id _ _ _ => bif Nat.beq id B then some none else none
theorem ovKill_ok {P : Program} {B : Nat} : ∀ c, OvOk P (ovKill B) c := fun c => OvOk_blks c fun x _ fr m k r _ h _ => by
  unfold ovKill at h
  cases hb : Nat.beq x.1 B <;> rw [hb] at h <;> cases h
/-- Which of two contracts, by where the call stands. -/
def rowS (sel : Nat → Nat → Option Bool) (Q : Ops) : MRow := fun args m => match args with
  | .pt id p r :: rest => (match sel m.n id with
      | some true => rowG Q (.pt id p r :: rest) m
      | some false => rowO Q (.pt id p r :: rest) m
      | none => none)
  | _ => none
theorem rowS_ok {f : FuncId} (hall : MRow2Ok Try.prog f allRow) (sel : Nat → Nat → Option Bool) : MRowOk Try.prog f (rowS sel ops) := fun args m c τ v m1 he hc => by
  unfold rowS at he
  split at he <;> try (cases he; done)
  split at he <;> try (cases he; done)
  · exact rowG_ok hall _ _ _ _ _ _ he hc
  · exact rowOr_ok hall _ _ _ _ _ _ he hc
/- The fences one by one. -/
def paL : Lq := { n := 128, n0 := 8, ts := [5, 6, 8, 10, 12, 11, 13], mv := [], ids := [(2, true), (3, true), (5, true), (7, true)] }
def paS (N N' : Nat) (E : Tab) (s : Sta) (T U : Tab) (n k i : Int) : List AV := [.pt 2 [] staSh, .pt 3 [] tlbSh, .pt 5 [] tlbSh, .it .i64 n, .sl 7 [] 0 N true, .it .i64 k, .it .i64 i, staA s, tlbA T, tlbA U, elA N' E]
theorem paA (Q : Ops) (Z : DoZ) (V : TeZ) (N N' : Nat) (E : Tab) (s : Sta) (T U : Tab) (n k i : Int) : evC Try.prog okT PC (HH2 (MTt Q Z V) (MTq2 Q)) RW NOV 101 false (bodyOf Try.f7.body 0) (paL.F (paS N N' E s T U n k i)) (paL.M (paS N N' E s T U n k i)) (grabJ 0 (grabQ paL)) =
    some (iLt i N && (iIn i N && (iIn i N && true)), .tup (.it .i64 0 :: paS N N' E s T (Z.st s (E (i.toNat + 0)).page (E (i.toNat + 0)).asid U) n (iAdd .i64 k (Z.sn s (E (i.toNat + 0)).page (E (i.toNat + 0)).asid U)) (iAdd .i64 i 1))) := by kernel_rfl
theorem paX (Q : Ops) (Z : DoZ) (V : TeZ) (N N' : Nat) (E : Tab) (s : Sta) (T U : Tab) (n k i : Int) : evC Try.prog okT PC (HH2 (MTt Q Z V) (MTq2 Q)) RW NOV 101 false (bodyOf Try.f7.body 0) (paL.F (paS N N' E s T U n k i)) (paL.M (paS N N' E s T U n k i)) (grabJ 2 (grabQ paL)) =
    some (!iLt i N && true, .tup (.it .i64 2 :: paS N N' E s T U n k i)) := by kernel_rfl
/- What is left is of others. -/
def pbL : Lq := { n := 128, n0 := 11, ts := [5, 6, 14, 15], mv := [], ids := [(2, true), (3, true), (10, true)] }
def pbS (N N' : Nat) (E : Tab) (s : Sta) (T : Tab) (i : Int) : List AV := [.pt 2 [] staSh, .pt 3 [] tlbSh, .sl 10 [] 0 N true, .it .i64 i, staA s, tlbA T, elA N' E]
def pbO (s : Sta) (e : En) : Bool := bif e.v == s.V then bif !s.V then true else iEq e.vmid (sfVm s) else false
def pbG (s : Sta) (e : En) : Bool := (e.v == s.V) && !!s.V
theorem pbA (N N' : Nat) (E : Tab) (s : Sta) (T : Tab) (i : Int) : evC Try.prog okT PC (HH []) RW NOV 101 false (bodyOf Try.f7.body 2) (pbL.F (pbS N N' E s T i)) (pbL.M (pbS N N' E s T i)) (grabJ 0 (grabQ pbL)) =
    some (iLt i N && (iIn i N && ((!pbG s (E (i.toNat + 0)) || iIn i N) && ((!pbG s (E (i.toNat + 0)) || iIn 21 29) && (!pbO s (E (i.toNat + 0)) && true)))), .tup (.it .i64 0 :: pbS N N' E s T (iAdd .i64 i 1))) := by kernel_rfl
theorem pbX (N N' : Nat) (E : Tab) (s : Sta) (T : Tab) (i : Int) : evC Try.prog okT PC (HH []) RW NOV 101 false (bodyOf Try.f7.body 2) (pbL.F (pbS N N' E s T i)) (pbL.M (pbS N N' E s T i)) (grabJ 4 (grabQ pbL)) =
    some (!iLt i N && true, .tup (.it .i64 4 :: pbS N N' E s T i)) := by kernel_rfl

/- FenceParts, evaluated. -/
structure PaW where
  pk : Sta → Nat → Tab → Tab → Int
  pt : Sta → Nat → Tab → Tab → Tab
  ok : Sta → Nat → Tab → Bool
def paTs : List Tm := [.fx .ref, .fx .ref, .fx .ref, .fx (.int .i64), .fx .ref, .fx (.int .i64), .fx (.int .i64), .fx staSh, .fx tlbSh, .fx tlbSh, .ar entSh]
def paE (W : PaW) (g : Nat → AV) : List AV := paS (lenS (g 4)) (lenA (g 10)) (arT (g 10)) (deSta (g 7)) (deT (g 8)) (W.pt (deSta (g 7)) (lenS (g 4)) (arT (g 10)) (deT (g 9))) (g 3).num (W.pk (deSta (g 7)) (lenS (g 4)) (arT (g 10)) (deT (g 9))) (lenS (g 4) : Nat)
def paGo (W : PaW) : (Nat → AV) → Kc → Option Out := goJ (fun g => isPt 2 staSh (g 0) && (isPt 3 tlbSh (g 1) && (isPt 5 tlbSh (g 2) && isSlq 7 true (g 4)))) (fun g => iEq (g 5).num 0 && (iEq (g 6).num 0 && iLt (lenS (g 4)) 1000000)) .normal (fun g => paL.F (paE W g)) (fun g => paL.M (paE W g))
def pbTs : List Tm := [.fx .ref, .fx .ref, .fx .ref, .fx (.int .i64), .fx staSh, .fx tlbSh, .ar entSh]
def pbE (g : Nat → AV) : List AV := pbS (lenS (g 2)) (lenA (g 6)) (arT (g 6)) (deSta (g 4)) (deT (g 5)) (lenS (g 2) : Nat)
def pbGo (W : PaW) : (Nat → AV) → Kc → Option Out := goJ (fun g => isPt 2 staSh (g 0) && (isPt 3 tlbSh (g 1) && isSlq 10 true (g 2))) (fun g => iEq (g 3).num 0 && W.ok (deSta (g 4)) (lenS (g 2)) (arT (g 6))) .normal (fun g => pbL.F (pbE g)) (fun g => pbL.M (pbE g))
/-- The state, out of a guest. -/
def ngS (s : Sta) : Sta := ⟨s.X, s.pc, s.lv, false, s.C, s.dn⟩
noncomputable def MTp (Q : Ops) (Z : DoZ) (V : TeZ) (sel : Nat → Nat → Option Bool) : List (FuncId × MRow) := (14, rowS sel Q) :: (29, rowV staSh fun a => staA (ngS (deSta a))) :: MTt Q Z V
noncomputable def hdP (Q : Ops) (Z : DoZ) (V : TeZ) (W : FlW) (sel : Nat → Nat → Option Bool) : Hd := hIn PC (HH2 (MTq Q) (MTq2 Q)) (f25o W) 25 Try.f25 (HH2 (MTp Q Z V sel) (MTq2 Q))
noncomputable def hdPz (Q : Ops) (Z : DoZ) (V : TeZ) (sel : Nat → Nat → Option Bool) : Hd := hIn PC (HH2 (MTq Q) (MTq2 Q)) NOV 25 Try.f25 (HH2 (MTp Q Z V sel) (MTq2 Q))
/- Where each call for all entries stands: all of them hold something but the last; the first alone; none. -/
def selN (n id : Nat) : Option Bool := bif Nat.beq n 7 && Nat.beq id 5 then some true else bif Nat.beq n 8 && Nat.beq id 3 then some true else bif Nat.beq n 9 && Nat.beq id 5 then some true else
  bif Nat.beq n 10 && Nat.beq id 3 then some true else bif Nat.beq n 11 && Nat.beq id 3 then some false else none
def selA (n id : Nat) : Option Bool := some (Nat.beq n 7)
def selO (n id : Nat) : Option Bool := some false
/- The law's end. -/
def nW (w : Bool) (cO : Bool) : Out := Om.pick w (Om.land cO (lfV (bif w then iEq 0 0 else false))) (Om.land (!w) (Om.land (!w) (Om.land (!w) (lfV false))))
/-- Behind the walk: T is what is left, N how many there are. -/
def nEnd (Q : Ops) (Z : DoZ) (c : Sta) (N : Int) (T : Tab) : Out :=
  nW (iEq (iAdd .i64 (Z.hn c (-1) (-1) T) (Z.sn (ngS c) (-1) (-1) (Z.ht c (-1) (-1) T))) N) (Nat.beq (Q.n (Z.st (ngS c) (-1) (-1) (Z.ht c (-1) (-1) T))) 0)
def nRestN (Q : Ops) (Z : DoZ) (W : PaW) (c : Sta) (T : Tab) : Out := Om.land (!Nat.beq (Q.n T) 0) (Om.land (iEq 0 0 && W.ok c (Q.n T) (Q.el T)) (nEnd Q Z c (Q.n T) T))
def nRestO (Q : Ops) (Z : DoZ) (c : Sta) (T : Tab) : Out := Om.land (Nat.beq (Q.n T) 0) (nEnd Q Z c 0 T)
/-- Behind the comparison: y: it failed. -/
def nTl (R : Tab → Out) (Z : DoZ) (c : Sta) (T : Tab) (y : Bool) : Out :=
  Om.pick (!y) (Om.pick (bif y then true else iNe (Z.sn c (-1) (-1) T) 0) (lfV false) (R (Z.st c (-1) (-1) T))) (Om.land (!!y) (Om.land y (Om.pick true (lfV false) (R T))))
/-- .. where the rest can't be. -/
def nTd (Z : DoZ) (c : Sta) (T : Tab) (y : Bool) : Out :=
  Om.pick (!y) (Om.land (bif y then true else iNe (Z.sn c (-1) (-1) T) 0) (lfV false)) (Om.land (!!y) (Om.land y (Om.land true (lfV false))))
def nMidN (Q : Ops) (Z : DoZ) (V : TeZ) (W : PaW) (c : Sta) (x : Bool) (T U : Tab) : Out :=
  Om.pick (!x) (Om.land (!Nat.beq (Q.n T) 0) (Om.pick (!x) (Om.land (!Nat.beq (Q.n U) 0) (Om.pick (!x) (Om.land (V.sm (Q.n T) (Q.n U) (Q.el T) (Q.el U)) (nTl (nRestN Q Z W c) Z c T (bif x then true else !true)))
      (Om.land (!!x) (Om.land x (nTl (nRestN Q Z W c) Z c T true))))) (Om.land (!!x) (Om.land (!!x) (Om.land x (nTd Z c T true))))))
    (Om.land (!!x) (Om.land (!!x) (Om.land (!!x) (Om.land x (nTd Z c T true)))))
def nMidO (Q : Ops) (Z : DoZ) (c : Sta) (x : Bool) (T U : Tab) : Out :=
  Om.pick (!x) (Om.land (Nat.beq (Q.n T) 0) (Om.pick (!x) (Om.land (Nat.beq (Q.n U) 0) (Om.pick (!x) (nTl (nRestO Q Z c) Z c T (bif x then true else !true))
      (Om.land (!!x) (Om.land x (nTl (nRestO Q Z c) Z c T true))))) (Om.land (!!x) (Om.land (!!x) (Om.land x (nTl (nRestO Q Z c) Z c T true))))))
    (Om.pick (!x) (Om.land (Nat.beq (Q.n U) 0) (Om.land (!!x) (Om.land (!!x) (Om.land x (nTl (nRestO Q Z c) Z c T true))))) (Om.land (!!x) (Om.land (!!x) (Om.land x (nTl (nRestO Q Z c) Z c T true)))))
def paAll (n : Nat) (X : Out) : Out := ftA n (Om.land (iEq 0 0 && iLt n 1000000) X)
theorem paN (Q : Ops) (Z : DoZ) (V : TeZ) (W : FlW) (P : PaW) (n : Nat) (E : Tab) (s : Sta) : evFn Try.prog okT PC (hdP Q Z V W selN) RW (ovOr (ovT 0 paL paTs (paGo P)) (ovOr (ovT 2 pbL pbTs (pbGo P)) (ovKill 2))) 101 false Try.f7 [.sl 0 [] 0 n false, staA s] (entM n E) (finQ onP0) =
    some (paAll n (let c := V.cl s; let T := W.ft n E fun _ => noEn; Om.land (!Nat.beq (Q.n T) 0) (Om.land (iEq 0 0 && (iEq 0 0 && iLt (Q.n T) 1000000)) (nMidN Q Z V P c (iNe (Z.sn c (-1) (-1) T) (P.pk c (Q.n T) (Q.el T) T)) (Z.st c (-1) (-1) T) (P.pt c (Q.n T) (Q.el T) T))))) := by kernel_rfl
theorem paA1 (Q : Ops) (Z : DoZ) (V : TeZ) (W : FlW) (P : PaW) (n : Nat) (E : Tab) (s : Sta) : evFn Try.prog okT PC (hdP Q Z V W selA) RW (ovT 0 paL paTs (paGo P)) 101 false Try.f7 [.sl 0 [] 0 n false, staA s] (entM n E) (finQ onP0) =
    some (paAll n (let c := V.cl s; let T := W.ft n E fun _ => noEn; Om.land (!Nat.beq (Q.n T) 0) (Om.land (iEq 0 0 && (iEq 0 0 && iLt (Q.n T) 1000000)) (nMidO Q Z c (iNe (Z.sn c (-1) (-1) T) (P.pk c (Q.n T) (Q.el T) T)) (Z.st c (-1) (-1) T) (P.pt c (Q.n T) (Q.el T) T))))) := by kernel_rfl
theorem paO (Q : Ops) (Z : DoZ) (V : TeZ) (W : FlW) (n : Nat) (E : Tab) (s : Sta) : evFn Try.prog okT PC (hdP Q Z V W selO) RW NOV 101 false Try.f7 [.sl 0 [] 0 n false, staA s] (entM n E) (finQ onP0) =
    some (paAll n (let c := V.cl s; let T := W.ft n E fun _ => noEn; Om.land (Nat.beq (Q.n T) 0) (nMidO Q Z c (iNe (Z.sn c (-1) (-1) T) 0) (Z.st c (-1) (-1) T) T))) := by kernel_rfl
theorem paZ (Q : Ops) (Z : DoZ) (V : TeZ) (s : Sta) : evFn Try.prog okT PC (hdPz Q Z V selO) RW NOV 101 false Try.f7 [.nsl, staA s] Mem.empty (finQ L0) =
    some (let c := V.cl s; let T := fun _ => noEn; Om.land (Nat.beq (Q.n T) 0) (nMidO Q Z c (iNe (Z.sn c (-1) (-1) T) 0) (Z.st c (-1) (-1) T) T)) := by kernel_rfl

/- FenceParts: the loops' meaning, the plain law, the law for all arguments. -/
/- One by one. -/
def paF (c : Sta) (E : Tab) (j : Nat) (e : En) : Bool := sfP c (E j).page (E j).asid e
def paU (c : Sta) (E U : Tab) : Nat → Tab
  | 0 => U
  | j + 1 => fnT (paF c E j) (paU c E U j)
def paK (c : Sta) (E U : Tab) : Nat → Nat
  | 0 => 0
  | j + 1 => paK c E U j + fnN (paF c E j) (paU c E U j)
theorem fnN_le (f : En → Bool) (T : Tab) : fnN f T ≤ 16 := by
  rw [fnN_eq]
  exact Nat.le_trans (List.length_filter_le _ _) (oks_len T)
theorem paK_le (c : Sta) (E U : Tab) : ∀ j, paK c E U j ≤ 16 * j
  | 0 => Nat.le_refl _
  | j + 1 => by
    unfold paK
    have h1 := paK_le c E U j
    have h2 := fnN_le (paF c E j) (paU c E U j)
    omega
def pbOk (c : Sta) (N : Nat) (E : Tab) : Bool := Nat.blt N 1000000 && upTo (fun i => !pbO c (E i)) N
def paW : PaW := ⟨fun c N E U => (paK c E U N : Nat), fun c N E U => paU c E U N, pbOk⟩
theorem okHt0 : HSound Try.prog (HH2 (MTt ops doZ teZ) (MTq2 ops)) := HH2_ok MTt_ok MTq2_ok
theorem paGo_ok : GoesT Try.prog 0 (.loop (bodyOf Try.f7.body 0)) paL paTs (paGo paW) := goT_ok fun g h1 h2 => by
  simp only [Bool.and_eq_true] at h1 h2
  obtain ⟨c0, c1, c2, c3⟩ := h1
  obtain ⟨d1, d2, d3⟩ := h2
  have hN := iLt_true.1 d3
  refine ⟨noGd_all (L := paL) rfl, fun fr m hm hb => ?_⟩
  have hst : norms (tmS g paTs 0) 0 g = paS (lenS (g 4)) (lenA (g 10)) (arT (g 10)) (deSta (g 7)) (deT (g 8)) (deT (g 9)) (g 3).num 0 0 := by
    have : norms (tmS g paTs 0) 0 g = [g 0, g 1, g 2, .it .i64 (g 3).num, g 4, .it .i64 (g 5).num, .it .i64 (g 6).num, staA (deSta (g 7)), tlbA (deT (g 8)), tlbA (deT (g 9)), elA (lenA (g 10)) (arT (g 10))] := rfl
    rw [this, iEq_true.1 d1, iEq_true.1 d2, isPt_ok c0, isPt_ok c1, isPt_ok c2]
    unfold paS
    rw [← isSlq_ok c3]
  rw [hst] at hb
  refine loopJ_block (F := fun j => paL.F (paS (lenS (g 4)) (lenA (g 10)) (arT (g 10)) (deSta (g 7)) (deT (g 8)) (paU (deSta (g 7)) (arT (g 10)) (deT (g 9)) j) (g 3).num (paK (deSta (g 7)) (arT (g 10)) (deT (g 9)) j : Nat) (j : Nat))) (M := fun j => paL.M (paS (lenS (g 4)) (lenA (g 10)) (arT (g 10)) (deSta (g 7)) (deT (g 8)) (paU (deSta (g 7)) (arT (g 10)) (deT (g 9)) j) (g 3).num (paK (deSta (g 7)) (arT (g 10)) (deT (g 9)) j : Nat) (j : Nat))) (n := lenS (g 4)) (c := 2)
    (fun j hj => ?_) ?_ (by decide) hm hb (e := .exit 0) rfl
  · have hE := paA ops doZ teZ (lenS (g 4)) (lenA (g 10)) (arT (g 10)) (deSta (g 7)) (deT (g 8)) (paU (deSta (g 7)) (arT (g 10)) (deT (g 9)) j) (g 3).num (paK (deSta (g 7)) (arT (g 10)) (deT (g 9)) j : Nat) ((j : Nat) : Int)
    have hk := paK_le (deSta (g 7)) (arT (g 10)) (deT (g 9)) (j + 1)
    have hk0 : paK (deSta (g 7)) (arT (g 10)) (deT (g 9)) (j + 1) = paK (deSta (g 7)) (arT (g 10)) (deT (g 9)) j + fnN (paF (deSta (g 7)) (arT (g 10)) j) (paU (deSta (g 7)) (arT (g 10)) (deT (g 9)) j) := rfl
    have hs : iAdd .i64 ((paK (deSta (g 7)) (arT (g 10)) (deT (g 9)) j : Nat) : Int) (doZ.sn (deSta (g 7)) (arT (g 10) j).page (arT (g 10) j).asid (paU (deSta (g 7)) (arT (g 10)) (deT (g 9)) j)) = (paK (deSta (g 7)) (arT (g 10)) (deT (g 9)) (j + 1) : Nat) := by
      rw [show doZ.sn (deSta (g 7)) (arT (g 10) j).page (arT (g 10) j).asid (paU (deSta (g 7)) (arT (g 10)) (deT (g 9)) j) = ((fnN (paF (deSta (g 7)) (arT (g 10)) j) (paU (deSta (g 7)) (arT (g 10)) (deT (g 9)) j) : Nat) : Int) from rfl]
      rw [iAdd_i64 (by omega) (by omega)]
      omega
    rw [iAdd_b j (by omega), iLt_true.2 (show (j : Int) < (lenS (g 4) : Nat) by omega), iIn_true.2 (show 0 ≤ (j : Int) ∧ (j : Int) < (lenS (g 4) : Nat) by omega), Nat.add_zero, Int.toNat_natCast, hs] at hE
    exact turnK_ok mix fair PC_ok okHt0 (OvOk_none _) (L := paL) rfl (grabJ_part 0 (Part.refl _)) (noGd_all (L := paL) rfl) hE rfl rfl
  · exact turnK_ok mix fair PC_ok okHt0 (OvOk_none _) (L := paL) rfl (grabJ_part 2 (Part.refl _)) (noGd_all (L := paL) rfl) (paX ops doZ teZ (lenS (g 4)) (lenA (g 10)) (arT (g 10)) (deSta (g 7)) (deT (g 8)) (paU (deSta (g 7)) (arT (g 10)) (deT (g 9)) (lenS (g 4))) (g 3).num (paK (deSta (g 7)) (arT (g 10)) (deT (g 9)) (lenS (g 4)) : Nat) ((lenS (g 4) : Nat) : Int)) (by rw [iLt_false.2 (Int.le_refl _)]; rfl) rfl
theorem okHn0 : HSound Try.prog (HH []) := okH0
theorem pbGo_ok : GoesT Try.prog 2 (.loop (bodyOf Try.f7.body 2)) pbL pbTs (pbGo paW) := goT_ok fun g h1 h2 => by
  simp only [Bool.and_eq_true] at h1 h2
  obtain ⟨c0, c1, c2⟩ := h1
  obtain ⟨d1, d2⟩ := h2
  have d2 : pbOk (deSta (g 4)) (lenS (g 2)) (arT (g 6)) = true := d2
  unfold pbOk at d2
  simp only [Bool.and_eq_true, Nat.blt_eq] at d2
  obtain ⟨hN, hup⟩ := d2
  refine ⟨noGd_all (L := pbL) rfl, fun fr m hm hb => ?_⟩
  have hst : norms (tmS g pbTs 0) 0 g = pbS (lenS (g 2)) (lenA (g 6)) (arT (g 6)) (deSta (g 4)) (deT (g 5)) 0 := by
    have : norms (tmS g pbTs 0) 0 g = [g 0, g 1, g 2, .it .i64 (g 3).num, staA (deSta (g 4)), tlbA (deT (g 5)), elA (lenA (g 6)) (arT (g 6))] := rfl
    rw [this, iEq_true.1 d1, isPt_ok c0, isPt_ok c1]
    unfold pbS
    rw [← isSlq_ok c2]
  rw [hst] at hb
  refine loopJ_block (F := fun j => pbL.F (pbS (lenS (g 2)) (lenA (g 6)) (arT (g 6)) (deSta (g 4)) (deT (g 5)) (j : Nat))) (M := fun j => pbL.M (pbS (lenS (g 2)) (lenA (g 6)) (arT (g 6)) (deSta (g 4)) (deT (g 5)) (j : Nat))) (n := lenS (g 2)) (c := 4)
    (fun j hj => ?_) ?_ (by decide) hm hb (e := .exit 2) rfl
  · have hE := pbA (lenS (g 2)) (lenA (g 6)) (arT (g 6)) (deSta (g 4)) (deT (g 5)) ((j : Nat) : Int)
    have ho := upTo_at (f := fun i => !pbO (deSta (g 4)) (arT (g 6) i)) hup j hj
    rw [iAdd_b j (by omega)] at hE
    refine turnK_ok mix fair PC_ok okHn0 (OvOk_none _) (L := pbL) rfl (grabJ_part 0 (Part.refl _)) (noGd_all (L := pbL) rfl) hE ?_ rfl
    rw [iLt_true.2 (show (j : Int) < (lenS (g 2) : Nat) by omega), iIn_true.2 (show 0 ≤ (j : Int) ∧ (j : Int) < (lenS (g 2) : Nat) by omega), Nat.add_zero, Int.toNat_natCast, ho, show iIn 21 29 = true from rfl, Bool.or_true]
    rfl
  · exact turnK_ok mix fair PC_ok okHn0 (OvOk_none _) (L := pbL) rfl (grabJ_part 4 (Part.refl _)) (noGd_all (L := pbL) rfl) (pbX (lenS (g 2)) (lenA (g 6)) (arT (g 6)) (deSta (g 4)) (deT (g 5)) ((lenS (g 2) : Nat) : Int)) (by rw [iLt_false.2 (Int.le_refl _)]; rfl) rfl
theorem f7_blk (c : Code) (hc : Try.f7.body = some c) : blks c = [(0, .loop (bodyOf Try.f7.body 0)), (1, blkAt ((Try.f7.body).getD .skip) 1), (2, .loop (bodyOf Try.f7.body 2)), (3, blkAt ((Try.f7.body).getD .skip) 3)] := by
  rw [show c = (Try.f7.body).getD .skip by rw [hc]; rfl]
  kernel_rfl
theorem f7_ov0 : ∀ c, Try.f7.body = some c → OvOk Try.prog (ovT 0 paL paTs (paGo paW)) c := fun c hc => ovT_ok rfl paGo_ok fun x hx h => by
  rw [f7_blk c hc] at hx
  simp only [List.mem_cons, List.not_mem_nil, or_false] at hx
  rcases hx with rfl | rfl | rfl | rfl <;> first | rfl | (cases h; done)
theorem f7_ov2 : ∀ c, Try.f7.body = some c → OvOk Try.prog (ovT 2 pbL pbTs (pbGo paW)) c := fun c hc => ovT_ok rfl pbGo_ok fun x hx h => by
  rw [f7_blk c hc] at hx
  simp only [List.mem_cons, List.not_mem_nil, or_false] at hx
  rcases hx with rfl | rfl | rfl | rfl <;> first | rfl | (cases h; done)
/- Plain. -/
theorem len_split (f : En → Bool) : ∀ l : List En, (l.filter f).length + (l.filter fun e => !f e).length = l.length
  | [] => rfl
  | e :: l => by
    have := len_split f l
    cases h : f e <;> simp [h] <;> omega
def anyF (F : Nat → En → Bool) : Nat → En → Bool
  | 0, _ => false
  | j + 1, e => anyF F j e || F j e
theorem anyF_iff (F : Nat → En → Bool) (e : En) : ∀ j, anyF F j e = true ↔ ∃ i, i < j ∧ F i e = true
  | 0 => by simp [anyF]
  | j + 1 => by
    unfold anyF
    rw [Bool.or_eq_true, anyF_iff F e j]
    constructor
    · rintro (⟨i, h1, h2⟩ | h)
      · exact ⟨i, by omega, h2⟩
      · exact ⟨j, by omega, h⟩
    · rintro ⟨i, h1, h2⟩
      by_cases hi : i = j
      · subst hi; exact .inr h2
      · exact .inl ⟨i, by omega, h2⟩
theorem paU_ok (c : Sta) (E : Tab) {U : Tab} (hu : Uniq U) : ∀ j, Uniq (paU c E U j) ∧ oks (paU c E U j) = (oks U).filter (fun e => !anyF (paF c E) j e) ∧ paK c E U j + (oks (paU c E U j)).length = (oks U).length
  | 0 => ⟨hu, by
    have : (fun e => !anyF (paF c E) 0 e) = fun _ => true := rfl
    rw [this, List.filter_eq_self.2 fun _ _ => rfl]; rfl, by simp [paU, paK]⟩
  | j + 1 => by
    obtain ⟨h1, h2, h3⟩ := paU_ok c E hu j
    refine ⟨fn_uniq _ h1, ?_, ?_⟩
    · unfold paU
      rw [oks_fn _ h1, h2, List.filter_filter]
      apply List.filter_congr
      intro e _
      rw [show anyF (paF c E) (j + 1) e = (anyF (paF c E) j e || paF c E j e) from rfl]
      cases anyF (paF c E) j e <;> cases paF c E j e <;> rfl
    · unfold paU paK
      rw [oks_fn _ h1, fnN_eq]
      have := len_split (paF c E j) (oks (paU c E U j))
      omega
theorem isF_self (n : Int) : isF n n = true := by
  unfold isF fence_is0
  rw [iEq_true.2 (show n = n from rfl)]
  cases iEq n (-1) <;> rfl
theorem isF_any (n : Int) : isF n (-1) = true := rfl
/-- Entries of one's own. -/
def ownF (c : Sta) (e : En) : Bool := bif c.V then bif e.v then iEq e.vmid (sfVm c) else false else !e.v
theorem sf_own (c : Sta) (p a : Int) (e : En) : sfP c p a e = (ownF c e && (isF e.page p && isF e.asid a)) := by
  unfold sfP ownF clPG clPS
  rw [vm_eq]
  cases c.V <;> cases e.v <;> cases iEq e.vmid (sfVm c) <;> cases isF e.page p <;> cases isF e.asid a <;> rfl
theorem sf_all (c : Sta) (e : En) : sfP c (-1) (-1) e = ownF c e := by
  rw [sf_own, isF_any, isF_any]
  cases ownF c e <;> rfl
theorem pbO_own (c : Sta) (e : En) : pbO c e = ownF c e := by
  unfold pbO ownF
  cases c.V <;> cases e.v <;> cases iEq e.vmid (sfVm c) <;> rfl
theorem any_own (c : Sta) (T : Tab) {e : En} (he : e ∈ oks T) : anyF (paF c (tabL (oks T))) (oks T).length e = ownF c e := by
  cases ho : ownF c e with
  | true =>
    rw [anyF_iff]
    obtain ⟨i, hi, hie⟩ := List.getElem_of_mem he
    refine ⟨i, hi, ?_⟩
    unfold paF
    rw [tabL_lt hi, hie, sf_own, ho, isF_self, isF_self]
    rfl
  | false =>
    cases h : anyF (paF c (tabL (oks T))) (oks T).length e with
    | false => rfl
    | true =>
      obtain ⟨i, _, h2⟩ := (anyF_iff _ _ _).1 h
      unfold paF at h2
      rw [sf_own, ho] at h2
      cases h2
theorem filt_own (c : Sta) (l : List En) : l.filter (fun e => !sfP c (-1) (-1) e) = l.filter fun e => !ownF c e := List.filter_congr fun e _ => by rw [sf_all]
theorem filt_own1 (c : Sta) (l : List En) : l.filter (fun e => sfP c (-1) (-1) e) = l.filter fun e => ownF c e := List.filter_congr fun e _ => by rw [sf_all]
theorem filt_none (f : En → Bool) (l : List En) : ((l.filter fun e => !f e).filter f) = [] := by
  rw [List.filter_filter, List.filter_eq_nil_iff]
  intro e _
  cases f e <;> decide
theorem filt_twice (f : En → Bool) (l : List En) : ((l.filter fun e => !f e).filter fun e => !f e) = l.filter fun e => !f e := by
  rw [List.filter_filter]
  apply List.filter_congr
  intro e _
  cases f e <;> rfl
/-- All that the law's end looks at. -/
theorem pa_facts {T : Tab} (hu : Uniq T) (c : Sta) :
    let T1 := doZ.st c (-1) (-1) T
    let U := paW.pt c (allN T) (allE T) T
    let T2 := doZ.st c (-1) (-1) T1
    let T3 := doZ.ht c (-1) (-1) T2
    let T4 := doZ.st (ngS c) (-1) (-1) T3
    iNe (doZ.sn c (-1) (-1) T) (paW.pk c (allN T) (allE T) T) = false ∧ allN U = allN T1 ∧ allE U = allE T1 ∧ iNe (doZ.sn c (-1) (-1) T1) 0 = false ∧ allN T2 = allN T1 ∧
      iEq (iAdd .i64 (doZ.hn c (-1) (-1) T2) (doZ.sn (ngS c) (-1) (-1) T3)) (allN T2) = true ∧ Nat.beq (allN T4) 0 = true ∧ pbOk c (allN T2) (allE T2) = true ∧ allN T1 ≤ 16 ∧ allN T1 ≤ allN T := by
  intro T1 U T2 T3 T4
  have u1 : Uniq T1 := fn_uniq _ hu
  have u2 : Uniq T2 := fn_uniq _ u1
  have u3 : Uniq T3 := fn_uniq _ u2
  have o1 : oks T1 = (oks T).filter fun e => !ownF c e := by rw [← filt_own]; exact oks_fn _ hu
  have o2 : oks T2 = oks T1 := by
    have : oks T2 = (oks T1).filter fun e => !sfP c (-1) (-1) e := oks_fn _ u1
    rw [this, filt_own, o1, filt_twice]
  obtain ⟨p1, p2, p3⟩ := paU_ok c (tabL (oks T)) hu (oks T).length
  have oU : oks U = oks T1 := by
    have : U = paU c (tabL (oks T)) T (oks T).length := by
      show paU c (allE T) T (allN T) = _
      rw [(all_eq T).1, (all_eq T).2]
    rw [this, p2, o1]
    exact List.filter_congr fun e he => by rw [any_own c T he]
  have ek : paK c (allE T) T (allN T) = fnN (sfP c (-1) (-1)) T := by
    rw [(all_eq T).1, (all_eq T).2, fnN_eq, filt_own1]
    have h1 : ((oks T).filter fun e => ownF c e).length + ((oks T).filter fun e => !ownF c e).length = (oks T).length := len_split (ownF c) (oks T)
    have h2 : (oks (paU c (tabL (oks T)) T (oks T).length)).length = ((oks T).filter fun e => !ownF c e).length := by
      rw [p2, List.filter_congr fun e he => by rw [any_own c T he]]
    omega
  have hH : (fun e => clPH e (-1) (-1)) = fun e => e.v := by
    funext e
    unfold clPH
    rw [isF_any, isF_any]
    cases e.v <;> rfl
  have hG : sfP (ngS c) (-1) (-1) = fun e => !e.v := by
    funext e
    rw [sf_all]
    rfl
  have o3 : oks T3 = (oks T2).filter fun e => !e.v := by
    have : oks T3 = (oks T2).filter fun e => !clPH e (-1) (-1) := oks_fn _ u2
    rw [this]
    exact List.filter_congr fun e _ => by rw [congrFun hH e]
  have o4 : oks T4 = [] := by
    have : oks T4 = (oks T3).filter fun e => !sfP (ngS c) (-1) (-1) e := oks_fn _ u3
    rw [this, o3, hG, List.filter_filter, List.filter_eq_nil_iff]
    intro e _
    show ¬ ((!!e.v && !e.v) = true)
    cases e.v <;> decide
  have n2 : fnN (fun e => clPH e (-1) (-1)) T2 = ((oks T2).filter fun e => e.v).length := by rw [fnN_eq, hH]
  have n3 : fnN (sfP (ngS c) (-1) (-1)) T3 = ((oks T2).filter fun e => !e.v).length := by
    rw [fnN_eq, hG, o3, List.filter_filter]
    congr 1
    apply List.filter_congr
    intro e _
    cases e.v <;> rfl
  have hl1 := oks_len T1
  have hl2 := oks_len T2
  have hs := len_split (fun e => e.v) (oks T2)
  refine ⟨?_, ?_, ?_, ?_, ?_, ?_, ?_, ?_, ?_, ?_⟩
  · show iNe ((fnN (sfP c (-1) (-1)) T : Nat) : Int) (paK c (allE T) T (allN T) : Nat) = false
    rw [ek]; unfold iNe; simp
  · rw [(all_eq U).1, (all_eq T1).1, oU]
  · rw [(all_eq U).2, (all_eq T1).2, oU]
  · show iNe ((fnN (sfP c (-1) (-1)) T1 : Nat) : Int) 0 = false
    rw [fnN_eq, filt_own1, o1, filt_none]
    rfl
  · rw [(all_eq T2).1, (all_eq T1).1, o2]
  · show iEq (iAdd .i64 ((fnN (fun e => clPH e (-1) (-1)) T2 : Nat) : Int) ((fnN (sfP (ngS c) (-1) (-1)) T3 : Nat) : Int)) _ = true
    rw [n2, n3, iAdd_i64 (by omega) (by omega), (all_eq T2).1, iEq_true]
    omega
  · rw [(all_eq T4).1, o4]; rfl
  · unfold pbOk
    rw [Bool.and_eq_true, Nat.blt_eq, (all_eq T2).1, (all_eq T2).2]
    refine ⟨by omega, upTo_all fun i hi => ?_⟩
    rw [tabL_lt hi, pbO_own]
    have hm : ∀ e, e ∈ oks T2 → (!ownF c e) = true := fun e he => by
      rw [o2, o1] at he
      exact (List.mem_filter.1 he).2
    exact hm _ (List.getElem_mem hi)
  · rw [(all_eq T1).1]; exact hl1
  · rw [(all_eq T1).1, (all_eq T).1, o1]
    exact List.length_filter_le _ _
theorem midO {T : Tab} (hu : Uniq T) (c : Sta) {x : Bool} {U : Tab} (hx : x = false) (hU : allN U = allN (doZ.st c (-1) (-1) T)) (h0 : Nat.beq (allN (doZ.st c (-1) (-1) T)) 0 = true) : nMidO ops doZ c x (doZ.st c (-1) (-1) T) U = lfV true := by
  obtain ⟨_, _, _, q4, q5, q6, q7, _, _, _⟩ := pa_facts hu c
  subst hx
  have h0' := Nat.eq_of_beq_eq_true h0
  rw [q5, h0'] at q6
  have q6 : iEq (iAdd .i64 (doZ.hn c (-1) (-1) (doZ.st c (-1) (-1) (doZ.st c (-1) (-1) T))) (doZ.sn (ngS c) (-1) (-1) (doZ.ht c (-1) (-1) (doZ.st c (-1) (-1) (doZ.st c (-1) (-1) T))))) 0 = true := q6
  unfold nMidO nTl nRestO nEnd nW
  rw [show ops.n = allN from rfl, hU, h0, q5, h0, q4, q6, q7]
  rfl
theorem midN {T : Tab} (hu : Uniq T) (c : Sta) {x : Bool} {U : Tab} (hx : x = false) (hU : allN U = allN (doZ.st c (-1) (-1) T)) (hE : allE U = allE (doZ.st c (-1) (-1) T)) (h0 : Nat.beq (allN (doZ.st c (-1) (-1) T)) 0 = false) : nMidN ops doZ teZ paW c x (doZ.st c (-1) (-1) T) U = lfV true := by
  obtain ⟨_, _, _, q4, q5, q6, q7, q8, q9, _⟩ := pa_facts hu c
  subst hx
  have q8 : paW.ok c (allN (doZ.st c (-1) (-1) (doZ.st c (-1) (-1) T))) (allE (doZ.st c (-1) (-1) (doZ.st c (-1) (-1) T))) = true := q8
  have hs : teZ.sm (allN (doZ.st c (-1) (-1) T)) (allN (doZ.st c (-1) (-1) T)) (allE (doZ.st c (-1) (-1) T)) (allE (doZ.st c (-1) (-1) T)) = true := smF_refl' q9
  unfold nMidN nTl nRestN nEnd nW
  rw [show ops.n = allN from rfl, show ops.el = allE from rfl, hU, hE, h0, hs, q4, q8, q6, q7, q5, h0]
  rfl
theorem p7 : Plain Try.prog 7 Try.f7 := ⟨Try.func7, of_decide_eq_true (by kernel_rfl)⟩
theorem ng_small (s : Sta) : Small Try.prog 29 [staA s] Mem.empty (staA (ngS s)) Mem.empty :=
  small_ok mix fair PC_ok okH0 (f := 29) ⟨Try.func29, of_decide_eq_true (by kernel_rfl)⟩ (fun c _ => OvOk_none c) (L := L0) (show evFn Try.prog okT PC (HH []) RW NOV 101 false Try.f29 [staA s] Mem.empty (finQ L0) = some (true, .tup [.it .i64 0, staA (ngS s)]) by kernel_rfl) rfl rfl rfl rfl rfl rfl
theorem MTp_ok (sel : Nat → Nat → Option Bool) : MOk Try.prog (MTp ops doZ teZ sel) := ⟨rowS_ok allRow_ok sel, rowV_ok (fun _ => rfl) fun a => ng_small (deSta a), MTt_ok⟩
theorem okHp (sel : Nat → Nat → Option Bool) : HSound Try.prog (hdP ops doZ teZ flW sel) := hIn_ok PC_ok okH p25 f25o_ok (HH2_ok (MTp_ok sel) MTq2_ok)
theorem okHpz (sel : Nat → Nat → Option Bool) : HSound Try.prog (hdPz ops doZ teZ sel) := hIn_ok PC_ok okH p25 (fun c _ => OvOk_none c) (HH2_ok (MTp_ok sel) MTq2_ok)
theorem pa_small (n : Nat) (E : Tab) (s : Sta) : ∃ m', Small Try.prog 7 [.sl 0 [] 0 n false, staA s] (entM n E) (.bl true) m' := by
  have hN := paN ops doZ teZ flW paW n E s
  have hA := paA1 ops doZ teZ flW paW n E s
  have hO := paO ops doZ teZ flW n E s
  unfold paAll ftA at hN hA hO
  rw [show (!true) = false from rfl, Om.pick_f] at hN hA hO
  cases h40 : iLt 40 (n : Int) with
  | true =>
    rw [h40, Om.pick_t] at hO
    exact ⟨_, small_ok mix fair PC_ok (okHp selO) p7 (fun c _ => OvOk_none c) hO rfl rfl rfl rfl rfl rfl⟩
  | false =>
    have h40' := iLt_false.1 h40
    have hu := fi_uniq E n
    obtain ⟨q1, q2, q3, q4, q5, q6, q7, q8, q9, q10⟩ := pa_facts hu (cleanF s)
    have hl : allN (fiT E (fun _ => noEn) n) ≤ 16 := by rw [(all_eq _).1]; exact oks_len _
    rw [h40, Om.pick_f, iLt_true.2 (show (n : Int) < 1000000 by omega), show flW.ft n E (fun _ => noEn) = fiT E (fun _ => noEn) n from rfl, show teZ.cl s = cleanF s from rfl] at hN hA hO
    cases h0 : Nat.beq (allN (fiT E (fun _ => noEn) n)) 0 with
    | true =>
      have h0' := Nat.eq_of_beq_eq_true h0
      have h1 : allN (doZ.st (cleanF s) (-1) (-1) (fiT E (fun _ => noEn) n)) = 0 := by omega
      have hx : iNe (doZ.sn (cleanF s) (-1) (-1) (fiT E (fun _ => noEn) n)) 0 = false := by
        have e : paW.pk (cleanF s) (allN (fiT E (fun _ => noEn) n)) (allE (fiT E (fun _ => noEn) n)) (fiT E (fun _ => noEn) n) = 0 := by
          rw [h0']; rfl
        rw [e] at q1
        exact q1
      simp only [show ops.n = allN from rfl, h0] at hO
      rw [midO hu (cleanF s) hx (by rw [h1, h0']) (by rw [h1]; rfl)] at hO
      exact ⟨_, small_ok mix fair PC_ok (okHp selO) p7 (fun c _ => OvOk_none c) hO rfl rfl rfl rfl rfl rfl⟩
    | false =>
      cases h1 : Nat.beq (allN (doZ.st (cleanF s) (-1) (-1) (fiT E (fun _ => noEn) n))) 0 with
      | true =>
        simp only [show ops.n = allN from rfl, show ops.el = allE from rfl, h0] at hA
        rw [iLt_true.2 (show ((allN (fiT E (fun _ => noEn) n) : Nat) : Int) < 1000000 by omega), midO hu (cleanF s) q1 q2 h1] at hA
        exact ⟨_, small_ok mix fair PC_ok (okHp selA) p7 f7_ov0 hA rfl rfl rfl rfl rfl rfl⟩
      | false =>
        simp only [show ops.n = allN from rfl, show ops.el = allE from rfl, h0] at hN
        rw [iLt_true.2 (show ((allN (fiT E (fun _ => noEn) n) : Nat) : Int) < 1000000 by omega), midN hu (cleanF s) q1 q2 q3 h1] at hN
        exact ⟨_, small_ok mix fair PC_ok (okHp selN) p7 (fun c hc => ovOr_ok (f7_ov0 c hc) (ovOr_ok (f7_ov2 c hc) (ovKill_ok c))) hN rfl rfl rfl rfl rfl rfl⟩
theorem pa_small0 (s : Sta) : ∃ m', Small Try.prog 7 [.nsl, staA s] Mem.empty (.bl true) m' := by
  have hZ := paZ ops doZ teZ s
  have h00 : allN (fun _ => noEn) = 0 := by rw [(all_eq _).1]; rfl
  obtain ⟨q1, q2, q3, q4, q5, q6, q7, q8, q9, q10⟩ := pa_facts uniq_no (cleanF s)
  have h1 : allN (doZ.st (cleanF s) (-1) (-1) (fun _ => noEn)) = 0 := by omega
  have hx : iNe (doZ.sn (cleanF s) (-1) (-1) (fun _ => noEn)) 0 = false := by
    have e : paW.pk (cleanF s) (allN (fun _ => noEn)) (allE (fun _ => noEn)) (fun _ => noEn) = 0 := by rw [h00]; rfl
    rw [e] at q1
    exact q1
  simp only [show ops.n = allN from rfl, show teZ.cl s = cleanF s from rfl, h00] at hZ
  rw [midO uniq_no (cleanF s) hx (by rw [h1, h00]) (by rw [h1]; rfl)] at hZ
  exact ⟨_, small_ok mix fair PC_ok (okHpz selO) p7 (fun c _ => OvOk_none c) hZ rfl rfl rfl rfl rfl rfl⟩
theorem pa_law (es : List Dat) (h : All2 Dat.Is [.sli entSh, .pl staSh] es) : ∃ m', Small Try.prog 7 (opA es 0) (opM [.sli entSh, .pl staSh] es Mem.empty) (.bl true) m' := by
  match es, h with
  | [.no, .pl a1], ⟨_, h1, _⟩ =>
    have e1 : a1 = staA (deSta a1) := by rw [← norm_sta, norm_eq _ _ h1.1 h1.2.1]
    rw [e1]
    exact pa_small0 (deSta a1)
  | [.sl n f, .pl a1], ⟨⟨_, hf⟩, h1, _⟩ =>
    have e1 : a1 = staA (deSta a1) := by rw [← norm_sta, norm_eq _ _ h1.1 h1.2.1]
    rw [e1, ent_eq hf]
    exact pa_small n (fun j => deA (f j)) (deSta a1)
end
end Go.Proofs.Ytcmknfnnapnecaa.PV
