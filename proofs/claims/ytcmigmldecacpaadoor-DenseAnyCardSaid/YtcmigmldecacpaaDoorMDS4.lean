/- Solve, in the form in which the printer asks for it. -/
import Derived.Test.YtcmigmldecacpaaDoorMDS3

namespace Go.Proofs.YtcmigmldecacpaaDoor.Giv
open Go Go.RowKit Go.Proofs.YtcmigmldecacpaaDoorW.PrintWords Go.Proofs.YtcmigmldecacpaaDoorW.PrintLast Go.Proofs.YtcmigmldecacpaaDoorW.PrintMore Go.Proofs.YtcmigmldecacpaaDoor.Vec Go.Proofs.YtcmigmldecacpaaDoor.Dense Go.Proofs.YtcmigmldecacpaaDoor.Reduce
set_option linter.unusedSimpArgs false
set_option linter.unusedVariables false

/-! ### what it computes -/
def eqsL (l0 l1 : List (List Int)) (n : Nat) : List (List Int) := List.zipWith (fun r y => padTo n r ++ y) l0 l1
def solveL (l0 l1 : List (List Int)) (n : Int) : List (List Int) × Int :=
  if Pure.wrongB l0 l1 n = true then ([], 1) else
    if (redTo (eqsL l0 l1 n.toNat) n.toNat).2.length < n.toNat then ([], 9) else
      if ((redTo (eqsL l0 l1 n.toNat) n.toNat).1.drop n.toNat).all (fun r => decide (Nought r)) = true then (((redTo (eqsL l0 l1 n.toNat) n.toNat).1.take n.toNat).map (fun r => r.drop n.toNat), 0) else ([], 11)
def okS (l : List (List Int)) : Bool := decide (l.length ≤ 1000) && l.all fun r => decide (r.length ≤ 1000) && okB r
def dense_Solve.f (l0 l1 : List (List Int)) (a2 : Int) : Option (List (List Int) × Int) := if okS l0 = true ∧ okS l1 = true ∧ a2 ≤ 1000 then some (solveL l0 l1 a2) else none
theorem eqsL_length {l0 l1 : List (List Int)} (h : l0.length = l1.length) (n : Nat) : (eqsL l0 l1 n).length = l0.length := by unfold eqsL; rw [List.length_zipWith]; omega
theorem eqsL_next {l0 l1 : List (List Int)} (n i : Nat) (h0 : i < l0.length) (h1 : i < l1.length) : (eqsL l0 l1 n).take (i + 1) = (eqsL l0 l1 n).take i ++ [padTo n l0[i] ++ l1[i]] := by
  have hl : i < (eqsL l0 l1 n).length := by unfold eqsL; rw [List.length_zipWith]; omega
  have e : (eqsL l0 l1 n)[i] = padTo n l0[i] ++ l1[i] := List.getElem_zipWith
  rw [List.take_succ_eq_append_getElem hl, e]
/-- the equations are rows of one length -/
theorem eqsL_slots {l0 l1 : List (List Int)} {n m : Nat} (h0 : ∀ r ∈ l0, r.length ≤ n ∧ By r) (h1 : ∀ y ∈ l1, y.length = m ∧ By y) : Slots (eqsL l0 l1 n) (n + m) := by
  have key : ∀ x ∈ eqsL l0 l1 n, x.length = n + m ∧ By x := by
    intro x hx
    unfold eqsL at hx
    obtain ⟨i, hi, rfl⟩ := List.mem_iff_getElem.1 hx
    rw [List.length_zipWith] at hi
    rw [List.getElem_zipWith]
    have g0 := h0 _ (List.getElem_mem (show i < l0.length by omega))
    have g1 := h1 _ (List.getElem_mem (show i < l1.length by omega))
    refine ⟨by rw [List.length_append, padTo_length g0.1, g1.1], fun z hz => ?_⟩
    rcases List.mem_append.1 hz with hz | hz
    · exact padTo_by g0.2 z hz
    · exact g1.2 z hz
  exact ⟨fun r hr => (key r hr).1, fun r hr => (key r hr).2⟩
theorem okS_iff {l : List (List Int)} (h : okS l = true) : l.length ≤ 1000 ∧ ∀ r ∈ l, r.length ≤ 1000 ∧ By r := okR_iff h
theorem info_u8s : (Tryd.prog.info? 5).map (fun i => (i.zero, i.size, i.bytes)) = some (some (.int .u8 0), 1, 1) := by kernel_rfl
theorem padTo_def (n : Nat) (r : List Int) : padTo n r = r ++ List.replicate (n - r.length) 0 := rfl
structure LAt (W : World) (L : List (List Int)) (v : Value) (w : World) : Prop where
  R : Kd.R kR 22 w W.heap.size (fun _ => True) v L
  bel : Below W.heap.size W w
/-- the header of an element that came in -/
theorem elem_at {w : World} {A : Option Addr} {n : Nat} {l : List (List Int)} (h : Kd.C kR w A n l) (i : Nat) (hi : i < n) (hl : i < l.length) : ∃ ad A' c', A = some ad ∧ w.cell? (ad.add i) = some (.slice A' l[i].length c') ∧ l[i].length ≤ c' ∧ Kd.C (Kd.int .u8) w A' l[i].length l[i] := by
  obtain ⟨ad, A', c', e, k, hc, hC⟩ := QFilled.at_L1 h (i : Int) (by omega) (by omega)
  have e1 : QFilled.rd_L1 l (i : Int) = l[i] := by unfold QFilled.rd_L1; rw [Int.toNat_natCast, List.getD_eq_getElem?_getD, List.getElem?_eq_getElem hl]; rfl
  rw [e1] at k hc hC
  rw [Int.toNat_natCast] at k
  exact ⟨ad, A', c', e, k, hc, hC⟩
/-- what not wrong says -/
theorem right_iff {l0 l1 : List (List Int)} {a : Int} (h : ¬ Pure.wrongB l0 l1 a = true) : ∃ n m : Nat, a = (n : Int) ∧ l0.length = l1.length ∧ (∀ r ∈ l0, r.length ≤ n) ∧ (∀ y ∈ l1, y.length = m) ∧ (l1 = [] → m = 0) := by
  unfold Pure.wrongB at h
  simp only [Bool.or_eq_true, decide_eq_true_eq, List.any_eq_true, not_or, not_exists, not_and] at h
  obtain ⟨h1, h2, h3, h4⟩ := h
  refine ⟨a.toNat, (l1.headD []).length, by omega, by omega, fun r hr => ?_, fun y hy => ?_, fun e => by rw [e]; rfl⟩
  · have := h3 r hr; omega
  · have := h4 y hy; omega
/-! ### the vectors, made row by row -/
def outL (R : List (List Int)) (n i : Nat) : List (List Int) := ((R.take n).map (fun r => r.drop n)).take i ++ List.replicate (n - i) []
theorem outL_length {R : List (List Int)} {n i : Nat} (h : n ≤ R.length) : (outL R n i).length = n := by
  unfold outL
  rw [List.length_append, List.length_take, List.length_map, List.length_take, List.length_replicate]
  omega
theorem outL_past {R : List (List Int)} {n i : Nat} (hi : n ≤ i) (h : n ≤ R.length) : outL R n i = (R.take n).map (fun r => r.drop n) := by
  unfold outL
  rw [show n - i = 0 by omega, List.replicate_zero, List.append_nil, List.take_of_length_le (by rw [List.length_map, List.length_take]; omega)]
theorem outL_set {R : List (List Int)} {n i : Nat} (hi : i < n) (h : n ≤ R.length) : (outL R n i).set i ((Lin.rw_ R i).drop n) = outL R n (i + 1) := by
  have hl : (((R.take n).map (fun r => r.drop n)).take i).length = i := by rw [List.length_take, List.length_map, List.length_take]; omega
  have e : ((R.take n).map (fun r => r.drop n))[i]'(by rw [List.length_map, List.length_take]; omega) = (Lin.rw_ R i).drop n := by
    rw [List.getElem_map, List.getElem_take, Lin.rw_at (by omega)]
  unfold outL
  rw [List.set_append_right _ _ (by omega), hl, Nat.sub_self, show n - i = (n - (i + 1)) + 1 by omega, List.replicate_succ, List.set_cons_zero, List.take_succ_eq_append_getElem (by rw [List.length_map, List.length_take]; omega), e, List.append_assoc]
  rfl
theorem made_rows (W : World) (n : Nat) (hn : n ≤ 1000) : RowsIs W.heap.size (W.alloc (.cells (madeCells #[.slice none 0 0] n) 22)) (.slice (some ⟨W.heap.size, 0, none⟩) n n) (List.replicate n (.slice none 0 0)) (List.replicate n []) := by
  have hcur : (W.alloc (.cells (madeCells #[.slice none 0 0] n) 22)).heap[W.heap.size]? = some (.cells (List.replicate n (Value.slice none 0 0)).toArray 22 (0, 0)) := by
    rw [Gy.alloc_at, ← toList_madeCells_one]
  refine ⟨?_, by rw [List.length_replicate, List.length_replicate], fun i u row h1 h2 => ?_⟩
  · rw [List.length_replicate]
    refine ⟨by simp, .inr ⟨W.heap.size, _, _, rfl, Nat.le_refl _, hcur, Nat.le_refl _, show n ≤ 9223372036854775807 by omega, by simp, ?_⟩⟩
    simp only [Nat.mul_one]
    rw [List.take_of_length_le (by simp)]
  · obtain ⟨hi, rfl⟩ := List.getElem?_eq_some_iff.1 h1
    obtain ⟨hi2, rfl⟩ := List.getElem?_eq_some_iff.1 h2
    rw [List.getElem_replicate, List.getElem_replicate]
    refine ⟨none, 0, rfl, Nat.le_refl _, ⟨rfl, by simp, fun h => absurd h (by simp)⟩, ⟨rfl, .inl ⟨rfl, rfl⟩⟩, fun e => by cases e⟩
structure OAt (W : World) (R : List (List Int)) (n i : Nat) (w : World) : Prop where
  rows : ∃ ks, RowsIs W.heap.size w (.slice (some ⟨W.heap.size, 0, none⟩) n n) ks (outL R n i)
  bel : Below W.heap.size W w
  lt : W.heap.size < w.heap.size
  zeros : ∀ j, n ≤ j → j < i → Nought (Lin.rw_ R j)
theorem OAt.start (W : World) (R : List (List Int)) (n : Nat) (hn : n ≤ 1000) : OAt W R n 0 (W.alloc (.cells (madeCells #[.slice none 0 0] n) 22)) := by
  refine ⟨⟨_, made_rows W n hn⟩, Gy.alloc_below W _, by show W.heap.size < (W.heap.push _).size; rw [Array.size_push]; omega, fun j _ h => absurd h (Nat.not_lt_zero _)⟩
theorem OAt.below {W w w' : World} {R : List (List Int)} {n i : Nat} (h : OAt W R n i w) (hb : Below w.heap.size w w') : OAt W R n i w' :=
  ⟨h.rows.imp fun _ hr => hr.below hb, h.bel.trans (hb.mono h.bel.size), Nat.lt_of_lt_of_le h.lt hb.size, h.zeros⟩
theorem OAt.free {W w : World} {R : List (List Int)} {n i : Nat} (h : OAt W R n i w) (j : Nat) : w.frozen? ⟨W.heap.size, j, none⟩ = false := by
  obtain ⟨ks, hr⟩ := h.rows
  exact hr.free j
theorem OAt.cell_at {W w : World} {R : List (List Int)} {n i : Nat} (h : OAt W R n i w) (j : Nat) (hn : n ≤ R.length) (hj : j < n) : ∃ A l c, w.cell? ⟨W.heap.size, j, none⟩ = some (.slice A l c) := by
  obtain ⟨ks, hr⟩ := h.rows
  exact RowsIs.cell_at hr (by rw [outL_length hn]; exact hj)
theorem el_of_R {w w' : World} {b : Nat} {u : Value} {xs : List Int} (h : Kd.R (Kd.int .u8) 5 w' w.heap.size (fun _ => True) u xs) (hb : b < w.heap.size) {base : Nat} (hbase : base ≤ w.heap.size) (hl : xs.length ≤ 100000) : ElIs base w' (some b) u xs := by
  obtain ⟨h0, inner, ho, hr⟩ := h
  obtain ⟨A, c, rfl⟩ := Vec.own_slice ho
  obtain rfl := nums_of_reps hr
  have ho2 : w'.ownsRow w.heap.size 5 1 (.slice A xs.length c) xs.length (nums .u8 xs) := ho
  exact ⟨A, c, rfl, own_le ho2, Gy.own_reads ho2 rfl (by omega), own_lower ho2 hbase, fun e => by have := own_base ho2 b e; omega⟩
theorem OAt.put {W w w6 : World} {R : List (List Int)} {n i : Nat} {q : List Int} {u : Value} (_h : OAt W R n i w) (h6 : OAt W R n i w6) (hi : i < n) (hn : n ≤ R.length) (hu : Kd.R (Kd.int .u8) 5 w6 w.heap.size (fun _ => True) u q) (hb : Below w.heap.size w w6) (hq : q = (Lin.rw_ R i).drop n) (hl : q.length ≤ 100000) : OAt W R n (i + 1) (w6.setCell ⟨W.heap.size, i, none⟩ u) := by
  obtain ⟨ks, hr⟩ := h6.rows
  have h1 := hr.set i u q (el_of_R hu _h.lt _h.bel.size hl)
  rw [hq, outL_set hi hn] at h1
  exact ⟨⟨_, h1⟩, h6.bel.setCell (Nat.le_refl _) _, by rw [Gy.set_size]; exact h6.lt, fun j h1 h2 => by omega⟩
theorem OAt.zero {W w : World} {R : List (List Int)} {n i : Nat} (h : OAt W R n i w) (hi : ¬ i < n) (hn : n ≤ R.length) (hz : Nought (Lin.rw_ R i)) : OAt W R n (i + 1) w := by
  obtain ⟨ks, hr⟩ := h.rows
  rw [outL_past (by omega) hn, ← outL_past (i := i + 1) (by omega) hn] at hr
  refine ⟨⟨ks, hr⟩, h.bel, h.lt, fun j h1 h2 => ?_⟩
  by_cases e : j = i
  · rw [e]; exact hz
  · exact h.zeros j h1 (by omega)
theorem OAt.all {W w : World} {R : List (List Int)} {n : Nat} (h : OAt W R n R.length w) : ((R.drop n).all fun r => decide (Nought r)) = true := by
  rw [List.all_eq_true]
  intro r hr
  obtain ⟨i, hi, rfl⟩ := List.mem_iff_getElem.1 hr
  rw [List.length_drop] at hi
  rw [List.getElem_drop, ← Lin.rw_at]
  exact decide_eq_true (h.zeros _ (by omega) (by omega))
theorem OAt.done {W w0 w : World} {R : List (List Int)} {n : Nat} (h : OAt W R n R.length w) (hn : n ≤ R.length) (hb : Below w0.heap.size w0 W) : Kd.V kR 22 w w0.heap.size (fun k_ => w0.heap.size ≤ k_) (.slice (some ⟨W.heap.size, 0, none⟩) n n) ((R.take n).map fun r => r.drop n) := by
  obtain ⟨ks, hr⟩ := h.rows
  rw [outL_past hn hn] at hr
  have hR := Kd.R_bound (Kd.R_lower (R_of_rows hr) hb.size)
  have hF := Kd.R_F hR
  have hle := (Kd.R_reads' hR).1
  exact ⟨_, _, congrArg (fun k => Value.slice (some ⟨W.heap.size, 0, none⟩) k n) hle, by have := (Kd.R_reads' hR).2.1; omega, Kd.F_mono (F_len hF hle) (fun k hk => hk.2.1)⟩
set_option maxHeartbeats 8000000 in
set_option maxRecDepth 100000 in
theorem dense_Solve.calls (A0 : Option Addr) (c0 : Nat) (l0 : List (List Int)) (A1 : Option Addr) (c1 : Nat) (l1 : List (List Int)) (a2 : Int) (r1 : List (List Int)) (r2 : Int) (w : World) (hr0 : Kd.C (Kd.slice 5 (Kd.int .u8)) w A0 l0.length l0) (hc0 : l0.length ≤ c0) (hr1 : Kd.C (Kd.slice 5 (Kd.int .u8)) w A1 l1.length l1) (hc1 : l1.length ≤ c1) (h : dense_Solve.f l0 l1 a2 = some (r1, r2)) :
    Calls Tryd.prog 18 #[.slice A0 l0.length c0, .slice A1 l1.length c1, .int .i64 a2] w fun e w' => ∃ v0_ : Value, e = .returned (.tuple #[v0_, .int .i64 r2]) ∧ Kd.V (Kd.slice 5 (Kd.int .u8)) 22 w' w.heap.size (fun k_ => (w.heap.size ≤ k_)) v0_ r1 ∧ Below w.heap.size w w' := by
  unfold dense_Solve.f at h
  split at h
  · rename_i hok
    have h' := Option.some.inj h
    obtain ⟨hl0, hb0⟩ := okS_iff hok.1
    obtain ⟨hl1, hb1⟩ := okS_iff hok.2.1
    have h2k := hok.2.2
    have H := Lib.hid (And.intro hr0 (And.intro hc0 (And.intro hr1 (And.intro hc1 (And.intro hl0 (And.intro hb0 (And.intro hl1 (And.intro hb1 h2k))))))))
    clear hr0 hc0 hr1 hc1 hl0 hb0 hl1 h2k h hok
    unfold solveL at h'
    by_cases hw : Pure.wrongB l0 l1 a2 = true
    · rw [if_pos hw] at h'
      injection h' with e1 e2
      subst e1 e2
      have HW := Lib.hid hw
      clear hw hb1
      go_enter Tryd.func18, Tryd.ntmps18
      go_wp2_with (go_at_call 26; (with_reducible refine (Pure.wrong_calls A0 c0 l0 A1 c1 l1 a2 _ H.out.1 H.out.2.1 H.out.2.2.1 H.out.2.2.2.1 (by have := H.out.2.2.2.2.1; omega)).mono ?_); rintro e w1 ⟨rfl, b1⟩; rw [HW.out]; have B1 := Lib.hid b1; clear b1)
      go_ret2
      exact ⟨_, rfl, Kd.V_nil _ _ _ _ _, B1.out⟩
    · rw [if_neg hw] at h'
      obtain ⟨n, m, rfl, hll, hn0, hm1, hm0⟩ := right_iff hw
      have hmk : m ≤ 1000 := by
        by_cases e : l1 = []
        · rw [hm0 e]; omega
        · obtain ⟨y, hy⟩ := List.exists_mem_of_ne_nil _ e
          have := hb1 y hy
          have := hm1 y hy
          omega
      clear hm0
      have HW := Lib.hid (show Pure.wrongB l0 l1 (n : Int) = false by simpa using hw)
      rw [Int.toNat_natCast] at h'
      have HR := Lib.hid (And.intro hll (And.intro hn0 hm1))
      have HM := Lib.hid hmk
      clear hw hll hn0 hm1 hb1 hmk
      have hLL := eqsL_length HR.out.1 n
      have hLS : Slots (eqsL l0 l1 n) (n + m) := eqsL_slots (fun r hr => ⟨HR.out.2.1 r hr, (H.out.2.2.2.2.2.1 r hr).2⟩) (fun y hy => ⟨HR.out.2.2 y hy, (H.out.2.2.2.2.2.2.2.1 y hy).2⟩)
      have hnx := fun (i : Nat) (h0 : i < l0.length) (h1 : i < l1.length) => eqsL_next (l0 := l0) (l1 := l1) n i h0 h1
      generalize eqsL l0 l1 n = L at h' hLL hLS hnx
      have HL := Lib.hid (And.intro hLL (And.intro hLS (And.intro hnx h')))
      clear hLL hLS hnx h'
      go_enter Tryd.func18, Tryd.ntmps18
      go_wp2_with (go_at_call 26; (with_reducible refine (Pure.wrong_calls A0 c0 l0 A1 c1 l1 n _ H.out.1 H.out.2.1 H.out.2.2.1 H.out.2.2.2.1 (by have := H.out.2.2.2.2.1; omega)).mono ?_); rintro e w1 ⟨rfl, b1⟩; rw [HW.out]; have B1 := Lib.hid b1; clear b1)
      go_loopw [8, 22] (fun v8 v22 wr => ∃ i : Nat, i ≤ l0.length ∧ v22 = .int .i64 (i : Int) ∧ Gy.Hd (LAt w (L.take i) v8 wr)) (fun _ v22 _ => l0.length - (intOf v22).toNat)
      case atStart => exact ⟨0, Nat.zero_le _, rfl, ⟨⟨Kd.R_nil _ _ _ _ _, B1.out⟩⟩⟩
      case round =>
        obtain ⟨wb, rfl⟩ : ∃ wb, wb = wr := ⟨wr, rfl⟩
        obtain ⟨i, hi, rfl, hx⟩ := hrel
        obtain ⟨Li, hLi⟩ : ∃ Li, Li = L.take i := ⟨_, rfl⟩
        have hx2 := hx.out
        rw [← hLi] at hx2
        obtain ⟨A8, c8, e8⟩ := Kd.R_slice hx2.R
        subst e8
        have HX := Lib.hid hx2
        have HLi := Lib.hid (And.intro hLi (show Li.length ≤ 1000 by have := H.out.2.2.2.2.1; rw [hLi, List.length_take]; omega))
        clear hx hx2 hLi
        by_cases hlt : i < l0.length
        · have t3 := j_lt hlt
          have hl1 : i < l1.length := by have := HR.out.1; omega
          obtain ⟨ad0, Ai, ci, rfl, k0, hci, hCi⟩ := elem_at (Kd.C_below H.out.1 HX.out.bel) i hlt hlt
          obtain ⟨ad1, Aj, cj, rfl, k1, hcj, hCj⟩ := elem_at (Kd.C_below H.out.2.2.1 HX.out.bel) i hl1 hl1
          have hri := HR.out.2.1 _ (List.getElem_mem hlt)
          have hbi := H.out.2.2.2.2.2.1 _ (List.getElem_mem hlt)
          have hbj := H.out.2.2.2.2.2.2.2.1 _ (List.getElem_mem hl1)
          have hnx := HL.out.2.2.1 i hlt hl1
          rw [← HLi.out.1] at hnx
          have HLI := Lib.hid (show (i : Int) < (l1.length : Int) by omega)
          have tl1 := HLI.out
          generalize l0[i] = ri at k0 hci hCi hri hbi hnx
          generalize l1[i] = yi at k1 hcj hCj hbj hnx
          have hwn : wrap64 ((n : Int) - (ri.length : Int)) = ((n - ri.length : Nat) : Int) := by have := H.out.2.2.2.2.2.2.2.2; unfold wrap64; omega
          have hcl : bytes_Clone.f ri = some ri := by unfold bytes_Clone.f; rw [if_pos (by omega)]
          have HE := Lib.hid (And.intro hci (And.intro hCi (And.intro hcj (And.intro hCj (And.intro hri (And.intro hbi (And.intro hbj (And.intro hnx hcl))))))))
          have HWN := Lib.hid hwn
          clear hwn
          have HJ := Lib.hid hlt
          have HWJ := Lib.hid (up_wrap hlt (by have := H.out.2.2.2.2.1; omega))
          have hwj := HWJ.out
          have hend := end_row hlt
          clear hci hCi hcj hCj hri hbi hbj hnx hcl hlt hl1
          go_wp2_with (first
            | (go_at_call 21; (with_reducible refine (bytes_Clone.calls Ai ci ri ri _ HE.out.2.1 HE.out.1 HE.out.2.2.2.2.2.2.2.2).mono ?_); rintro e w2 ⟨v2, rfl, h2, b2⟩; have H2 := Lib.hid (And.intro h2 b2); clear h2 b2)
            | ((with_reducible refine gate_builtin (b := .append) (xs := #[.tmp 28, .tmp 32]) rfl ?_); at_builtin; refine Kd.R_append_zeros (Kd.int .u8) (w0 := w2) wb.heap.size rfl (.tmp 28) (.tmp 32) 22 3 5 (.int .u8 0) 1 rfl Tryd.underlying22 Tryd.underlying3 info_u8s rfl (by decide) (by omega) v2 ri 0 (wrap64 ((n : Int) - (ri.length : Int))) (fun _ => True) rfl rfl rfl (fun _ _ => trivial) H2.out.1 (by rw [HWN.out]; exact Int.natCast_nonneg _) (Below.refl _ _) H2.out.2.size ?aL ?_
               (case aL => have := HE.out.2.2.2.2.2.1.1; have := H.out.2.2.2.2.2.2.2.2; rw [HWN.out]; omega)
               intro v3 w3 h3 b3 g3 a3
               rw [HWN.out, Int.toNat_natCast] at h3
               have k3 := below_cell (H2.out.2.trans b3) k1
               have H3 := Lib.hid (And.intro h3 b3)
               clear h3 b3 g3 a3)
            | ((with_reducible refine gate_builtin (b := .append) (xs := #[.tmp 35, .tmp 39]) rfl ?_); at_builtin; refine Kd.R_append_rows (Kd.int .u8) (Rr := (Kd.int .u8).K w3) (w0 := w3) wb.heap.size rfl (.tmp 35) (.tmp 39) 22 5 (.int .u8 0) 1 rfl Tryd.underlying22 info_u8s rfl (by decide) (by omega) v3 (ri ++ List.replicate (n - ri.length) 0) yi Aj yi.length cj (fun _ => True) (fun _ => False) rfl rfl H3.out.1 (Kd.C_below HE.out.2.2.2.1 (H2.out.2.trans H3.out.2)) (fun _ _ h => h) (fun _ h => h.elim) (fun _ _ => trivial) (Below.refl _ _) (H2.out.2.trans H3.out.2).size ?aL ?_
               (case aL => have := HE.out.2.2.2.2.2.1.1; have := HE.out.2.2.2.2.2.2.1.1; have := H.out.2.2.2.2.2.2.2.2; simp; omega)
               intro v4 w4 h4 b4 g4 a4
               obtain ⟨z, hz⟩ : ∃ z, z = ri ++ List.replicate (n - ri.length) 0 ++ yi := ⟨_, rfl⟩
               rw [← hz] at h4
               have HZ := Lib.hid hz
               clear hz
               obtain ⟨A4, c4, e4⟩ := Kd.R_slice h4
               subst e4
               have H4 := Lib.hid (And.intro h4 (H2.out.2.trans (H3.out.2.trans b4)))
               clear h4 b4 g4 a4)
            | ((with_reducible refine gate_builtin (b := .append) (xs := #[.tmp 34, .tmp 41]) rfl ?_); at_builtin; refine Kd.R_append kR (W := w4) (w0 := w4) w.heap.size rfl (.tmp 34) (.tmp 41) 35 22 (.slice none 0 0) 24 rfl Tryd.underlying35 info_row rfl (by decide) (by omega) (.slice A8 Li.length c8) Li z [.slice A4 z.length c4] (fun _ => True) (fun k => wb.heap.size ≤ k) rfl rfl ?aP ?aK (fun _ _ => trivial) (Kd.R_below HX.out.R H4.out.2) (Below.refl _ _) (Nat.le_trans HX.out.bel.size H4.out.2.size) ?aL ?_
               (case aP => exact ⟨_, rfl, Kd.R_lower (Kd.R_mono (Kd.R_bound H4.out.1) (fun k hk => hk.2.1)) HX.out.bel.size⟩)
               (case aK => (intro k hk; refine ⟨trivial, fun e => ?_⟩; obtain ⟨inner, ho⟩ := Kd.R_own HX.out.R; have := own_lt ho k e.symm; omega))
               (case aL => have := HLi.out.2; omega)
               intro v5 w5 h5 b5 g5 a5
               have H5 := Lib.hid (And.intro h5 b5)
               clear h5 b5 g5 a5))
          (try rw [HWJ.out])
          have h5 := H5.out.1
          rw [HZ.out, ← padTo_def, ← HE.out.2.2.2.2.2.2.2.1] at h5
          exact ⟨⟨i + 1, HJ.out, by norm_cast, ⟨⟨h5, HX.out.bel.trans ((H4.out.2.mono HX.out.bel.size).trans H5.out.2)⟩⟩⟩, hend⟩
        · obtain rfl : i = l0.length := Nat.le_antisymm hi (Nat.le_of_not_lt hlt)
          have t3 : decide ((l0.length : Int) < (l0.length : Int)) = false := by simp
          have hLL : Li = L := by rw [HLi.out.1, List.take_of_length_le (by rw [HL.out.1]; exact Nat.le_refl _)]
          subst hLL
          have hk : Calls Tryd.prog 27 #[.slice A8 Li.length c8, .int .i64 (n : Int)] wb fun e w' => ∃ A5 c5, e = .returned (.slice A5 (redTo Li n).2.length c5) ∧ Left w.heap.size wb Li.length c8 A8 (redTo Li n).1 (redTo Li n).2 A5 c5 w w' :=
            reduced_calls w.heap.size _ c8 n (n + m) A8 Li w wb HX.out.R HX.out.bel.size HX.out.bel HL.out.2.1 (by have := H.out.2.2.2.2.2.2.2.2; have := HM.out; omega) (by have := HLi.out.2; omega) (.inl (Nat.le_add_right _ _))
          have hinv := redTo_inv HL.out.2.1 n
          have h' := HL.out.2.2.2
          generalize redTo Li n = st at hk hinv h'
          obtain ⟨R, P⟩ := st
          simp only at hk hinv h'
          have HK := Lib.hid hk
          have HI := Lib.hid hinv
          have hPn : (P.length : Int) ≤ 1000 := by have := hinv.2.2; have := HLi.out.2; omega
          clear hk hinv hi hlt
          by_cases hP : P.length < n
          · rw [if_pos hP] at h'
            injection h' with e1 e2
            subst e1 e2
            have t4 : decide ((P.length : Int) < (n : Int)) = true := by simpa using hP
            have t4' : decide (P.length < n) = true := by simpa using hP
            clear hP
            go_wp2_with (go_at_call 27; (with_reducible refine HK.out.mono ?_); rintro e w2 ⟨A5, c5, rfl, h5⟩; have H5 := Lib.hid h5; clear h5)
            go_ret2
            exact ⟨_, rfl, Kd.V_nil _ _ _ _ _, H5.out.bel⟩
          · rw [if_neg hP] at h'
            have t4 : decide ((P.length : Int) < (n : Int)) = false := by simpa using hP
            have t4' : decide (P.length < n) = false := by simpa using hP
            have H' := Lib.hid h'
            have HN := Lib.hid (show n ≤ R.length by have := HI.out.2.1; have := HI.out.2.2; omega)
            have hm := print_make_of (P := Tryd.prog) 35 22 (.slice none 0 0) 24 Tryd.underlying35 info_row rfl (by decide) n (by have := H.out.2.2.2.2.2.2.2.2; omega)
            obtain ⟨inf, hinf, hinf2⟩ := Option.map_eq_some_iff.1 info_u8s
            have hisz : inf.size = 1 := congrArg (fun x => x.2.1) hinf2
            clear hP h' hinf2
            go_wp2_with (go_at_call 27; (with_reducible refine HK.out.mono ?_); rintro e w2 ⟨A5, c5, rfl, h5⟩; have H5 := Lib.hid h5; clear h5)
            have hO := OAt.start w2 R n (by have := H.out.2.2.2.2.2.2.2.2; omega)
            have HB3 := Lib.hid (Gy.alloc_below w2 (.cells (madeCells #[.slice none 0 0] n) 22))
            generalize w2.alloc (.cells (madeCells #[.slice none 0 0] n) 22) = w3 at hO HB3
            have HO := Lib.hid hO
            clear hO
            have HRL := Lib.hid HI.out.2.1
            go_loopw [55] (fun v55 wr => ∃ i : Nat, i ≤ R.length ∧ v55 = .int .i64 (i : Int) ∧ Gy.Hd (OAt w2 R n i wr)) (fun v55 _ => R.length - (intOf v55).toNat)
            case atStart => exact ⟨0, Nat.zero_le _, rfl, ⟨HO.out⟩⟩
            case round =>
              obtain ⟨wb2, rfl⟩ : ∃ wb2, wb2 = wr := ⟨wr, rfl⟩
              obtain ⟨i, hi, rfl, hx⟩ := hrel
              have HX2 := Lib.hid hx.out
              clear hx
              by_cases hlt : i < R.length
              · have hltL : i < Li.length := by rw [← HRL.out]; exact hlt
                have t5 := j_lt hltL
                have t5' : decide (i < Li.length) = true := decide_eq_true hltL
                have tl5 : (i : Int) < (Li.length : Int) := by omega
                obtain ⟨ad8, Ai, ci, rfl, k8, hci, hCi⟩ := elem_at (Kd.C_below (Kd.R_reads' H5.out.rows).2.2 HX2.out.bel) i hlt hlt
                have hSi := HI.out.1.at hlt
                have HRI := Lib.hid (show Lin.rw_ R i = R[i] from Lin.rw_at hlt)
                generalize R[i] = ri at k8 hci hCi hSi HRI
                have HE := Lib.hid (And.intro hci (And.intro hCi hSi))
                have HJ := Lib.hid hlt
                have HWJ := Lib.hid (up_wrap hlt (by have := HLi.out.2; have := HRL.out; omega))
                have hwj := HWJ.out
                have hend := end_row hlt
                clear hci hCi hSi hlt
                by_cases hin : i < n
                · have t6 := j_lt hin
                  have t6' : decide (i < n) = true := decide_eq_true hin
                  obtain ⟨q, hq⟩ : ∃ q, q = ri.drop n := ⟨_, rfl⟩
                  obtain ⟨A6, c6, hcut, hC6, hc6⟩ : ∃ A6 c6, (∀ W : World, (Instr.slice 22 (.slice Ai ri.length ci) (some (.int .i64 (n : Int))) none none).run Tryd.prog W = .ok (.slice A6 q.length c6) W) ∧ Kd.C (Kd.int .u8) wb2 A6 q.length q ∧ q.length ≤ c6 := by
                    have hl : ri.length = n + m := HE.out.2.2.1
                    have h1 := cut_from (P := Tryd.prog) 22 5 .i64 Tryd.underlying22 hinf 1 hisz Ai ri.length ci (n : Int) (Int.natCast_nonneg _) (by omega)
                    have h2 := Kd.C_drop (m := n) HE.out.2.1 (by omega) HE.out.1
                    rw [Int.toNat_natCast] at h1
                    subst hq
                    refine ⟨_, ci - n, fun W => ?_, h2, by rw [List.length_drop]; have := HE.out.1; omega⟩
                    rw [h1 W, List.length_drop]
                    rfl
                  have hcl : bytes_Clone.f q = some q := by
                    unfold bytes_Clone.f
                    rw [if_pos (by rw [hq, List.length_drop]; have := HE.out.2.2.1; have := HM.out; omega)]
                  have HQ := Lib.hid (And.intro hq (And.intro hC6 (And.intro hc6 hcl)))
                  have HIN := Lib.hid hin
                  clear hq hC6 hc6 hcl hin
                  go_wp2_with (go_at_call 21; (with_reducible refine (bytes_Clone.calls A6 c6 q q _ HQ.out.2.1 HQ.out.2.2.1 HQ.out.2.2.2).mono ?_); rintro e w6 ⟨v6, rfl, h6, b6⟩; (obtain ⟨A7, c7, e7⟩ := Kd.R_slice h6); subst e7; have h7 := HX2.out.below b6; have f7 := h7.free i; obtain ⟨A9, l9, c9, k9⟩ := h7.cell_at i (by have := HN.out; have := HIN.out; omega) HIN.out; have H6 := Lib.hid (And.intro h6 (And.intro b6 h7)); clear h6 b6 h7)
                  (try rw [HWJ.out])
                  exact ⟨⟨i + 1, HJ.out, by norm_cast, ⟨HX2.out.put (w6 := w6) (q := q) H6.out.2.2 HIN.out HN.out H6.out.1 H6.out.2.1 (by rw [HQ.out.1, ← HRI.out]) (by rw [HQ.out.1, List.length_drop]; have := HE.out.2.2.1; have := HM.out; have := H.out.2.2.2.2.2.2.2.2; omega)⟩⟩, hend⟩
                · have t6 : decide ((i : Int) < (n : Int)) = false := by simpa using hin
                  have t6' : decide (i < n) = false := decide_eq_false hin
                  have HIN := Lib.hid hin
                  have hz0 : vector_Zero.f ri = some (decide (Nought ri)) := by
                    unfold vector_Zero.f
                    rw [if_pos (by have := HE.out.2.2.1; have := HM.out; have := H.out.2.2.2.2.2.2.2.2; omega)]
                  have HZ := Lib.hid hz0
                  clear hin hz0
                  by_cases hno : Nought ri
                  · have t7 : decide (Nought ri) = true := decide_eq_true hno
                    have HNO := Lib.hid hno
                    clear hno
                    go_wp2_with (go_at_call 12; (with_reducible refine (vector_Zero.calls Ai ci ri _ _ HE.out.2.1 HE.out.1 HZ.out).mono ?_); rintro e w6 ⟨rfl, b6⟩; rw [t7]; have H6 := Lib.hid b6; clear b6)
                    (try rw [HWJ.out])
                    exact ⟨⟨i + 1, HJ.out, by norm_cast, ⟨(HX2.out.below H6.out).zero HIN.out HN.out (by rw [HRI.out]; exact HNO.out)⟩⟩, hend⟩
                  · have t7 : decide (Nought ri) = false := decide_eq_false hno
                    have hno2 : ¬ ((R.drop n).all fun r => decide (Nought r)) = true := by
                      rw [List.all_eq_true]
                      intro h
                      refine hno (of_decide_eq_true (h ri (List.mem_iff_getElem.2 ⟨i - n, by rw [List.length_drop]; have := HJ.out; have := HIN.out; omega, ?_⟩)))
                      rw [List.getElem_drop, ← Lin.rw_at, ← HRI.out]
                      congr 1
                      have := HIN.out
                      omega
                    have h' := H'.out
                    rw [if_neg hno2] at h'
                    injection h' with e1 e2
                    subst e1 e2
                    clear hno hno2
                    go_wp2_with (go_at_call 12; (with_reducible refine (vector_Zero.calls Ai ci ri _ _ HE.out.2.1 HE.out.1 HZ.out).mono ?_); rintro e w6 ⟨rfl, b6⟩; rw [t7]; have H6 := Lib.hid b6; clear b6)
                    go_ret2
                    exact ⟨_, rfl, Kd.V_nil _ _ _ _ _, H5.out.bel.trans ((HX2.out.bel.trans (H6.out.mono HX2.out.bel.size)).mono H5.out.bel.size)⟩
              · obtain rfl : i = R.length := Nat.le_antisymm hi (Nat.le_of_not_lt hlt)
                have t5 : decide ((R.length : Int) < (Li.length : Int)) = false := by have := HRL.out; simp; omega
                have t5' : decide (R.length < Li.length) = false := by have := HRL.out; simp; omega
                have hall : ((R.drop n).all fun r => decide (Nought r)) = true := HX2.out.all
                have h' := H'.out
                rw [if_pos hall] at h'
                injection h' with e1 e2
                subst e1 e2
                clear hlt hi hall
                go_wp2_with fail
                go_ret2
                exact ⟨_, rfl, HX2.out.done HN.out H5.out.bel, H5.out.bel.trans (HX2.out.bel.mono H5.out.bel.size)⟩
  · cases h
end Go.Proofs.YtcmigmldecacpaaDoor.Giv
/- Machine-made by a program of this claim: functions of the Go program as Lean functions, and that its calls do what these say. Lean checks it. -/
namespace Go.Proofs.YtcmigmldecacpaaDoor.QDenseSolves
open Go.RowKit Go.Proofs.YtcmigmldecacpaaDoorW.PrintWords Go.Proofs.YtcmigmldecacpaaDoorW.PrintLast Go.Proofs.YtcmigmldecacpaaDoorW.PrintMore Go.Proofs.YtcmigmldecacpaaDoor.Giv
attribute [local go_sem] max2_int min2_int max_two min_two max_three min_three max_four min_four   -- for this text's walks alone
set_option linter.unusedVariables false
set_option linter.unusedSimpArgs false

-- given: function 25 (dense_Rank)

/-! ### geyserlaw05_awake: function 14 -/
def geyserlaw05_awake.f  : Option (Bool) := (dense_Rank.f (([(([1] : List Int))] : List (List Int)))).bind fun t107 => (some (t107 == 1))
set_option maxHeartbeats 8000000 in
set_option maxRecDepth 100000 in
theorem geyserlaw05_awake.calls  (r : Bool) (w : World) (h : geyserlaw05_awake.f  = some r) :
    Calls Tryd.prog 14 #[] w fun e w' => e = .returned (.bool r) ∧ Below w.heap.size w w' := by
  have HB := Aside0.mk (Below.refl w.heap.size w)
  have H : ((dense_Rank.f (([(([1] : List Int))] : List (List Int)))).bind fun t107 => (some (t107 == 1))) = some r := h
  clear h
  obtain ⟨y101, hy101⟩ : ∃ y_ : List Int, y_ = (([1] : List Int)) := ⟨_, rfl⟩
  replace H : ((dense_Rank.f (([y101] : List (List Int)))).bind fun t107 => (some (t107 == 1))) = some r := by first | (rw [hy101]; with_reducible exact H) | (have H2_ := (Option.bind_some _ _).symm.trans H; rw [hy101]; with_reducible exact H2_) | (have H2_ := (Option.bind_some _ _).symm.trans H; with_reducible exact H2_) | with_reducible exact H | (rw [hy101]; exact H) | exact H
  have Ny101 := Aside0.mk hy101
  clear hy101
  obtain ⟨y104, hy104⟩ : ∃ y_ : List (List Int), y_ = (([y101] : List (List Int))) := ⟨_, rfl⟩
  replace H : ((dense_Rank.f y104).bind fun t107 => (some (t107 == 1))) = some r := by first | (rw [hy104]; with_reducible exact H) | (have H2_ := (Option.bind_some _ _).symm.trans H; rw [hy104]; with_reducible exact H2_) | (have H2_ := (Option.bind_some _ _).symm.trans H; with_reducible exact H2_) | with_reducible exact H | (rw [hy104]; exact H) | exact H
  have Ny104 := Aside0.mk hy104
  clear hy104
  replace H := Option.bind_eq_some_iff.mp H
  obtain ⟨t107, A10, H⟩ := H
  replace H : (some (t107 == 1)) = some r := H
  have A1 := Aside0.mk A10
  clear A10
  obtain rfl := Option.some.inj H
  go_enter Tryd.func14, Tryd.ntmps14
  go_wp2_with (first | ((with_reducible refine gate_dst (N := 1) rfl ?_); refine Kd.R_lit (Kd.int .u8) _ 5 ?hg (N := 1) ?hd (xs := ([1] : List Int)) (inner := [.int .u8 1]) (ok := fun _ => True) (okp := fun _ => True) ?hr ?hp (fun _ hk => hk) trivial (Below.refl _ _) (Nat.le_refl _) (by simp) ?_; (case hd => rfl); (case hg => rfl); (case hr => first | (go_simp; done) | (go_simp; rfl)); (case hp => exact (Reps.one (show Kd.M (Kd.int .u8) _ _ _ 1 [.int .u8 1] from rfl) (Reps.none _ _))); intro v102 w2 ho3 hb hg_ hnew_; clear hg_ hnew_; (first | rw [← Ny101.out] at ho3 | (simp only [Int.reduceToNat] at ho3; rw [← Ny101.out] at ho3)); have n0_ := Aside0.mk (Kd.R_lower ho3 (below_size (by repeat (first | (with_reducible first | exact HB.out | apply below_alloc | apply pw_below_drewN | apply below_drew1) | exact HB.out)))); have n1_ := Aside0.mk (below_step (by repeat (first | (with_reducible first | exact HB.out | apply below_alloc | apply pw_below_drewN | apply below_drew1) | exact HB.out)) hb); clear HB; have HO103 := n0_; have HB := n1_; clear n0_ n1_; clear hb ho3; obtain ⟨Ao4, co4, eo4⟩ := Kd.R_slice HO103.out; subst eo4) | ((with_reducible refine gate_dst (N := 2) rfl ?_); refine Kd.N_lit (Kd.slice 5 (Kd.int .u8)) _ 22 ?hg (N' := 2) ?hd (xs := ([y101] : List (List Int))) (inner := [.slice Ao4 y101.length co4]) (ok := (fun _ => True)) (okp := (fun _ => True)) ?hr ?hp (fun _ hk => hk) ((show ∀ k_, w2.heap.size ≤ k_ → (fun _ => True) k_ from fun k_ hk => trivial) _ (Nat.le_refl _)) (Below.refl _ _) (Nat.le_refl _) (by simp) ?_; (case hd => rfl); (case hg => rfl); (case hr => first | (go_simp; done) | (go_simp; rfl)); (case hp => exact (Reps.one (show Kd.FK (Kd.slice 5 (Kd.int .u8)) _ _ y101 [.slice Ao4 y101.length co4] from (Kd.FK_slice_mk (Kd.R_reads' (Kd.R_mono (ok' := (fun _ => True)) (HO103.out) (fun k_ hk => trivial))).2.1 (Kd.R_F (Kd.R_mono (ok' := (fun _ => True)) (HO103.out) (fun k_ hk => trivial))))) (Reps.none _ _))); intro v105 w5 ho6 hb hg_ hnew_; clear hg_ hnew_; (first | rw [← Ny104.out] at ho6 | (simp only [Int.reduceToNat] at ho6; rw [← Ny104.out] at ho6)); have n0_ := Aside0.mk (Kd.N_lower ho6 (below_size (by repeat (first | (with_reducible first | exact HB.out | apply below_alloc | apply pw_below_drewN | apply below_drew1) | exact HB.out)))); have n1_ := Aside0.mk (below_step (by repeat (first | (with_reducible first | exact HB.out | apply below_alloc | apply pw_below_drewN | apply below_drew1) | exact HB.out)) hb); clear HB; clear HO103; have HO106 := n0_; have HB := n1_; clear n0_ n1_; clear hb ho6; obtain ⟨Ao7, co7, eo7⟩ := Kd.N_slice HO106.out; subst eo7) | ((with_reducible refine gate_callee (f := 25) rfl ?_); refine goesL_ (some 3) rfl rfl Tryd.func25 (by kernel_rfl) rfl #[.slice Ao7 y104.length co7] rfl (by (try simp only [List.map_toArray, List.map_cons, List.map_nil]); first | done | rfl | (simp only [List.length_drop, List.length_take]; rfl)) ?_; (with_reducible refine (dense_Rank.calls _ _ y104 t107 _ ?side1 ?side2 A1.out).mono ?_); (case side1 => repeat (first | exact (Kd.N_reads' HO106.out).2.2 | (with_reducible refine Kd.C_alloc ?_ _) | (with_reducible refine Kd.C_drewN ?_ _) | (with_reducible refine Kd.C_drew ?_))); (case side2 => exact (Kd.N_reads' HO106.out).2.1); rintro e w8 ⟨rfl, hb⟩; refine ⟨_, rfl, ?_⟩; have n0_ := Aside0.mk (Kd.N_below (by (with_reducible repeat (first | apply Kd.N_alloc | apply Kd.N_drewN | apply Kd.N_drew)); exact HO106.out) hb); have n1_ := Aside0.mk (below_step (by repeat (first | (with_reducible first | exact HB.out | apply below_alloc | apply pw_below_drewN | apply below_drew1) | exact HB.out)) hb); clear HO106; clear HB; have HO106 := n0_; have HB := n1_; clear n0_ n1_; (try clear hb); (try clear hb2); (try clear hk); (try clear hi)))
  go_ret
  exact ⟨by first | rfl | (simp [errW_none, errW_some] <;> rfl) | (simp [*, errW_none, errW_some] <;> rfl), by repeat (first | (with_reducible first | exact HB.out | apply below_alloc | apply pw_below_drewN | apply below_drew1) | exact HB.out)⟩

/-! ### geyserlaw05_few: function 15 -/
def geyserlaw05_few.l0 : Nat → List (List Int) → Int → Int → Option (Bool)
  | 0, _, _, _ => none
  | k + 1, x0, x5, x6 => if x6 < x5 then (if x6 ≥ 40 then (some false) else (if 0 ≤ x6 then (if x6 < (x0.length : Int) then (if ((rd_L1 x0 x6).length : Int) > 40 then (some false) else (geyserlaw05_few.l0 k x0 x5 (wrap64 (x6 + 1)))) else (none)) else (none))) else (some true)
def geyserlaw05_few.f (k : Nat) (l0 : List (List Int)) : Option (Bool) := geyserlaw05_few.l0 k l0 (l0.length : Int) 0
theorem geyserlaw05_few.mono_l : ∀ k, (∀ y0 y1 y2, LeO (geyserlaw05_few.l0 k y0 y1 y2) (geyserlaw05_few.l0 (k + 1) y0 y1 y2))
  | 0 => fun _ _ _ r h => by simp [geyserlaw05_few.l0] at h
  | k + 1 => by
    have ih0 := geyserlaw05_few.mono_l k
    · intro y0 y1 y2
      unfold geyserlaw05_few.l0
      repeat' first
      | (with_reducible exact ih0 _ _ _)
      | (with_reducible exact LeO.refl _)
      | (with_reducible exact LeO.none _)
      | (with_reducible refine LeO.ite ?_ ?_)
      | (with_reducible refine LeO.bind ?_ (fun _ => ?_))
      | exact ih0 _ _ _
      | exact LeO.none _
      | refine LeO.ite ?_ ?_
      | refine LeO.bind ?_ (fun _ => ?_)
theorem geyserlaw05_few.mono : ∀ a0 k, LeO (geyserlaw05_few.f k a0) (geyserlaw05_few.f (k + 1) a0) := by
  intro a0 k
  have ih0 := geyserlaw05_few.mono_l k
  unfold geyserlaw05_few.f
  repeat' first
      | (with_reducible exact ih0 _ _ _)
      | (with_reducible exact LeO.refl _)
      | (with_reducible exact LeO.none _)
      | (with_reducible refine LeO.ite ?_ ?_)
      | (with_reducible refine LeO.bind ?_ (fun _ => ?_))
      | exact ih0 _ _ _
      | exact LeO.none _
      | refine LeO.ite ?_ ?_
      | refine LeO.bind ?_ (fun _ => ?_)
set_option maxHeartbeats 8000000 in
set_option maxRecDepth 100000 in
theorem geyserlaw05_few.calls (k : Nat) (A0 : Option Addr) (c0 : Nat) (l0 : List (List Int)) (r : Bool) (w : World) (hr0 : Kd.C (Kd.slice 5 (Kd.int .u8)) w A0 l0.length l0) (hc0 : l0.length ≤ c0) (h : geyserlaw05_few.f k l0 = some r) :
    Calls Tryd.prog 15 #[.slice A0 l0.length c0] w fun e w' => e = .returned (.bool r) ∧ Drawn0 w w' := by
  have HR0 := Aside0.mk hr0
  have HC0 := Aside0.mk hc0
  clear hr0 hc0
  have H : (geyserlaw05_few.l0 k l0 (l0.length : Int) 0) = some r := h
  clear h
  have H' := Aside0.mk H
  clear H
  go_enter Tryd.func15, Tryd.ntmps15
  go_wp2
  go_loopg [6] k (fun kq v6 w' => ∃ (x6_1 : Int), v6 = .int .i64 x6_1 ∧ Aside0 (geyserlaw05_few.l0 kq l0 (l0.length : Int) x6_1 = some r) ∧ Aside0 (kq ≤ k) ∧ Drawn0 w w')
  case atStart => exact ⟨(0), (by first | rfl | (simp; done) | (simp [*]; done)), H', ⟨Nat.le_refl _⟩, by repeat (first | exact Drawn0.refl _ | apply Drawn0.step)⟩
  case round =>
    clear H'
    try clear c1
    obtain ⟨x6_1, rfl, HA, HK1, ⟨m1, rfl⟩⟩ := hrel
    cases gk with
    | zero => exact absurd HA.out (by simp [geyserlaw05_few.l0])
    | succ k1 =>
      have H := HA.out
      clear HA
      simp only [geyserlaw05_few.l0] at H
      by_cases c2 : x6_1 < (l0.length : Int)
      · rw [if_pos c2] at H
        have c2b0 : decide (x6_1 < (l0.length : Int)) = true := decide_eq_true c2
        clear c2
        by_cases c3 : x6_1 ≥ 40
        · rw [if_pos c3] at H
          have c3b0 : decide (40 ≤ x6_1) = true := decide_eq_true c3
          clear c3
          obtain rfl := Option.some.inj H
          go_wp2
          go_ret
          exact ⟨by first | rfl | (simp; done) | (simp [*]; done), by repeat (first | exact Drawn0.refl _ | apply Drawn0.step)⟩
        · rw [if_neg c3] at H
          have c3b0 : decide (40 ≤ x6_1) = false := decide_eq_false c3
          clear c3
          by_cases c4 : 0 ≤ x6_1
          · rw [if_pos c4] at H
            have c4b0 : decide (0 ≤ x6_1) = true := decide_eq_true c4
            clear c4
            by_cases c5 : x6_1 < (l0.length : Int)
            · rw [if_pos c5] at H
              have c5b0 : decide (x6_1 < (l0.length : Int)) = true := decide_eq_true c5
              clear c5
              by_cases c6 : ((rd_L1 l0 x6_1).length : Int) > 40
              · rw [if_pos c6] at H
                have c6b0 : decide (40 < ((rd_L1 l0 x6_1).length : Int)) = true := decide_eq_true c6
                have c6b1 : decide (40 < (rd_L1 l0 x6_1).length) = true := decide_eq_true (by omega)
                clear c6
                obtain rfl := Option.some.inj H
                have p108 : 0 ≤ (x6_1 : Int) := of_decide_eq_true (by first | (with_reducible assumption) | assumption)
                have q108 : x6_1 < (l0.length : Int) := of_decide_eq_true (by first | (with_reducible assumption) | assumption)
                obtain ⟨ad108, A108_0, c108_0, e108, hx108_0, hl108_0, hi108_0⟩ := at_L1 HR0.out x6_1 p108 q108
                cases e108
                have HR108_0 := Aside0.mk hi108_0
                have HC108_0 := Aside0.mk hl108_0
                clear hi108_0 hl108_0
                replace p108 := eq_true p108
                replace q108 := eq_true q108
                go_wp2
                go_ret
                exact ⟨by first | rfl | (simp; done) | (simp [*]; done), by repeat (first | exact Drawn0.refl _ | apply Drawn0.step)⟩
              · rw [if_neg c6] at H
                have c6b0 : decide (40 < ((rd_L1 l0 x6_1).length : Int)) = false := decide_eq_false c6
                have c6b1 : decide (40 < (rd_L1 l0 x6_1).length) = false := decide_eq_false (by omega)
                clear c6
                have H' := Aside0.mk H
                clear H
                have p108 : 0 ≤ (x6_1 : Int) := of_decide_eq_true (by first | (with_reducible assumption) | assumption)
                have q108 : x6_1 < (l0.length : Int) := of_decide_eq_true (by first | (with_reducible assumption) | assumption)
                obtain ⟨ad108, A108_0, c108_0, e108, hx108_0, hl108_0, hi108_0⟩ := at_L1 HR0.out x6_1 p108 q108
                cases e108
                have HR108_0 := Aside0.mk hi108_0
                have HC108_0 := Aside0.mk hl108_0
                clear hi108_0 hl108_0
                replace p108 := eq_true p108
                replace q108 := eq_true q108
                go_wp2
                go_roundg k1
                case measure => have := HK1.out; omega
                case rel => exact ⟨(wrap64 (x6_1 + 1)), (by first | rfl | (simp; done) | (simp [*]; done)), H', ⟨by have := HK1.out; omega⟩, by repeat (first | exact Drawn0.refl _ | apply Drawn0.step)⟩
            · rw [if_neg c5] at H
              exact absurd H (by simp)
          · rw [if_neg c4] at H
            exact absurd H (by simp)
      · rw [if_neg c2] at H
        have c2b0 : decide (x6_1 < (l0.length : Int)) = false := decide_eq_false c2
        clear c2
        obtain rfl := Option.some.inj H
        go_wp2
        go_ret
        exact ⟨by first | rfl | (simp; done) | (simp [*]; done), by repeat (first | exact Drawn0.refl _ | apply Drawn0.step)⟩

-- given: function 16 (geyserref03_Fill)

/-! ### geyserref03_Mul: function 13 -/
mutual
def geyserref03_Mul.l0 : Nat → Int → Int → Int → Int → Option (Int)
  | 0, _, _, _, _ => none
  | k + 1, x0, x1, x5, x8 => if x8 < 8 then (if 0 ≤ (IntKind.u64.wrap (x8)) then (if (Go.bits .and .u8 (shr .u8 x1 (IntKind.u64.wrap (x8))) 1) = 1 then (geyserref03_Mul.l0 k x0 x1 (Go.bits .xor .i64 x5 (shl .i64 (wrap64 (x0)) (IntKind.u64.wrap (x8)))) (wrap64 (x8 + 1))) else (geyserref03_Mul.l0 k x0 x1 x5 (wrap64 (x8 + 1)))) else (none)) else (geyserref03_Mul.l1 k x5 14)
def geyserref03_Mul.l1 : Nat → Int → Int → Option (Int)
  | 0, _, _ => none
  | k + 1, x5, x7 => if x7 ≥ 8 then (if 0 ≤ (IntKind.u64.wrap (x7)) then (if (Go.bits .and .i64 (shr .i64 x5 (IntKind.u64.wrap (x7))) 1) = 1 then (if 0 ≤ (IntKind.u64.wrap (wrap64 (x7 - 8))) then (geyserref03_Mul.l1 k (Go.bits .xor .i64 x5 (shl .i64 285 (IntKind.u64.wrap (wrap64 (x7 - 8))))) (wrap64 (x7 - 1))) else (none)) else (geyserref03_Mul.l1 k x5 (wrap64 (x7 - 1)))) else (none)) else (some ((x5) % 256))
end
def geyserref03_Mul.f (k : Nat) (a0 : Int) (a1 : Int) : Option (Int) := geyserref03_Mul.l0 k a0 a1 0 0
theorem geyserref03_Mul.mono_l : ∀ k, (∀ y0 y1 y2 y3, LeO (geyserref03_Mul.l0 k y0 y1 y2 y3) (geyserref03_Mul.l0 (k + 1) y0 y1 y2 y3)) ∧ (∀ y0 y1, LeO (geyserref03_Mul.l1 k y0 y1) (geyserref03_Mul.l1 (k + 1) y0 y1))
  | 0 => ⟨fun _ _ _ _ r h => by simp [geyserref03_Mul.l0] at h, fun _ _ r h => by simp [geyserref03_Mul.l1] at h⟩
  | k + 1 => by
    obtain ⟨ih0, ih1⟩ := geyserref03_Mul.mono_l k
    refine ⟨?_, ?_⟩
    · intro y0 y1 y2 y3
      unfold geyserref03_Mul.l0
      repeat' first
      | (with_reducible exact ih0 _ _ _ _)
      | (with_reducible exact ih1 _ _)
      | (with_reducible exact LeO.refl _)
      | (with_reducible exact LeO.none _)
      | (with_reducible refine LeO.ite ?_ ?_)
      | (with_reducible refine LeO.bind ?_ (fun _ => ?_))
      | exact ih0 _ _ _ _
      | exact ih1 _ _
      | exact LeO.none _
      | refine LeO.ite ?_ ?_
      | refine LeO.bind ?_ (fun _ => ?_)
    · intro y0 y1
      unfold geyserref03_Mul.l1
      repeat' first
      | (with_reducible exact ih0 _ _ _ _)
      | (with_reducible exact ih1 _ _)
      | (with_reducible exact LeO.refl _)
      | (with_reducible exact LeO.none _)
      | (with_reducible refine LeO.ite ?_ ?_)
      | (with_reducible refine LeO.bind ?_ (fun _ => ?_))
      | exact ih0 _ _ _ _
      | exact ih1 _ _
      | exact LeO.none _
      | refine LeO.ite ?_ ?_
      | refine LeO.bind ?_ (fun _ => ?_)
theorem geyserref03_Mul.mono : ∀ a0 a1 k, LeO (geyserref03_Mul.f k a0 a1) (geyserref03_Mul.f (k + 1) a0 a1) := by
  intro a0 a1 k
  obtain ⟨ih0, ih1⟩ := geyserref03_Mul.mono_l k
  unfold geyserref03_Mul.f
  repeat' first
      | (with_reducible exact ih0 _ _ _ _)
      | (with_reducible exact ih1 _ _)
      | (with_reducible exact LeO.refl _)
      | (with_reducible exact LeO.none _)
      | (with_reducible refine LeO.ite ?_ ?_)
      | (with_reducible refine LeO.bind ?_ (fun _ => ?_))
      | exact ih0 _ _ _ _
      | exact ih1 _ _
      | exact LeO.none _
      | refine LeO.ite ?_ ?_
      | refine LeO.bind ?_ (fun _ => ?_)
set_option maxHeartbeats 8000000 in
set_option maxRecDepth 100000 in
theorem geyserref03_Mul.calls (k : Nat) (a0 : Int) (a1 : Int) (r : Int) (w : World) (h : geyserref03_Mul.f k a0 a1 = some r) :
    Calls Tryd.prog 13 #[.int .u8 a0, .int .u8 a1] w fun e w' => e = .returned (.int .u8 r) ∧ Drawn0 w w' := by
  have H : (geyserref03_Mul.l0 k a0 a1 0 0) = some r := h
  clear h
  have H' := Aside0.mk H
  clear H
  go_enter Tryd.func13, Tryd.ntmps13
  go_wp2
  go_loopg [5, 8] k (fun kq v5 v8 w' => ∃ (x5_1 : Int) (x8_1 : Int), v5 = .int .i64 x5_1 ∧ v8 = .int .i64 x8_1 ∧ Aside0 (geyserref03_Mul.l0 kq a0 a1 x5_1 x8_1 = some r) ∧ Aside0 (kq ≤ k) ∧ Drawn0 w w')
  case atStart => exact ⟨(0), (0), (by first | rfl | (simp; done) | (simp [*]; done)), (by first | rfl | (simp; done) | (simp [*]; done)), H', ⟨Nat.le_refl _⟩, by repeat (first | exact Drawn0.refl _ | apply Drawn0.step)⟩
  case round =>
    clear H'
    try clear c1
    try clear p2
    obtain ⟨x5_1, x8_1, rfl, rfl, HA, HK1, ⟨m1, rfl⟩⟩ := hrel
    cases gk with
    | zero => exact absurd HA.out (by simp [geyserref03_Mul.l0])
    | succ k1 =>
      have H := HA.out
      clear HA
      simp only [geyserref03_Mul.l0] at H
      by_cases c3 : x8_1 < 8
      · rw [if_pos c3] at H
        have c3b0 : decide (x8_1 < 8) = true := decide_eq_true c3
        clear c3
        obtain ⟨ji4, hji4⟩ : ∃ j_ : Int, (IntKind.u64.wrap (x8_1)) = j_ := ⟨_, rfl⟩
        replace H : (if 0 ≤ (ji4) then (if (Go.bits .and .u8 (shr .u8 a1 (ji4)) 1) = 1 then (geyserref03_Mul.l0 k1 a0 a1 (Go.bits .xor .i64 x5_1 (shl .i64 (wrap64 (a0)) (ji4))) (wrap64 (x8_1 + 1))) else (geyserref03_Mul.l0 k1 a0 a1 x5_1 (wrap64 (x8_1 + 1)))) else (none)) = some r := by first | (rw [hji4] at H; exact H) | (simp only [hji4] at H ⊢; exact H)
        by_cases c5 : 0 ≤ (ji4)
        · rw [if_pos c5] at H
          have c5b0 := eq_true c5
          have c5b1 : decide (0 ≤ (ji4)) = true := decide_eq_true c5
          clear c5
          obtain ⟨ji6, hji6⟩ : ∃ j_ : Int, (shr .u8 a1 (ji4)) = j_ := ⟨_, rfl⟩
          replace H : (if (Go.bits .and .u8 (ji6) 1) = 1 then (geyserref03_Mul.l0 k1 a0 a1 (Go.bits .xor .i64 x5_1 (shl .i64 (wrap64 (a0)) (ji4))) (wrap64 (x8_1 + 1))) else (geyserref03_Mul.l0 k1 a0 a1 x5_1 (wrap64 (x8_1 + 1)))) = some r := by first | (rw [hji6] at H; exact H) | (simp only [hji6] at H ⊢; exact H)
          have hji6_ : (a1 / 2 ^ min (ji4).toNat 8) = ji6 := hji6
          have hji6z : (ji4) ≤ 8 → (a1 / 2 ^ (ji4).toNat) = ji6 := shr_small hji6
          by_cases c7 : (Go.bits .and .u8 (ji6) 1) = 1
          · rw [if_pos c7] at H
            have c7b0 : ((Go.bits .and .u8 (ji6) 1) == 1) = true := beq_iff_eq.mpr c7
            have c7b1 : ((Go.bits .and .u8 (ji6) 1) != 1) = false := bne_eq_false_iff_eq.mpr c7
            clear c7
            have c8b0 := eq_true (of_decide_eq_true (by first | (with_reducible assumption) | assumption) : 0 ≤ (ji4))
            obtain ⟨ji9, hji9⟩ : ∃ j_ : Int, (shl .i64 (wrap64 (a0)) (ji4)) = j_ := ⟨_, rfl⟩
            replace H : (geyserref03_Mul.l0 k1 a0 a1 (Go.bits .xor .i64 x5_1 (ji9)) (wrap64 (x8_1 + 1))) = some r := by first | (rw [hji9] at H; exact H) | (simp only [hji9] at H ⊢; exact H)
            have hji9_ : (IntKind.i64.wrap ((wrap64 (a0)) * 2 ^ min (ji4).toNat 64)) = ji9 := hji9
            have hji9z : (ji4) ≤ 64 → (IntKind.i64.wrap ((wrap64 (a0)) * 2 ^ (ji4).toNat)) = ji9 := shl_small hji9
            have hji9y : (wrap64 ((wrap64 (a0)) * 2 ^ min (ji4).toNat 64)) = ji9 := (i64_w _).symm.trans hji9_
            have hji9x : (ji4) ≤ 64 → (wrap64 ((wrap64 (a0)) * 2 ^ (ji4).toNat)) = ji9 := fun h_ => (i64_w _).symm.trans (hji9z h_)
            have H' := Aside0.mk H
            clear H
            go_wp2
            go_roundg k1
            case measure => have := HK1.out; omega
            case rel => exact ⟨(Go.bits .xor .i64 x5_1 (ji9)), (wrap64 (x8_1 + 1)), (by first | rfl | (simp; done) | (simp only [← hji9] <;> (first | rfl | simp)) | (simp [*]; done)), (by first | rfl | (simp; done) | (simp [*]; done)), H', ⟨by have := HK1.out; omega⟩, by repeat (first | exact Drawn0.refl _ | apply Drawn0.step)⟩
          · rw [if_neg c7] at H
            have c7b0 : ((Go.bits .and .u8 (ji6) 1) == 1) = false := beq_eq_false_iff_ne.mpr c7
            have c7b1 : ((Go.bits .and .u8 (ji6) 1) != 1) = true := bne_iff_ne.mpr c7
            have H' := Aside0.mk H
            clear H
            go_wp2
            go_roundg k1
            case measure => have := HK1.out; omega
            case rel => exact ⟨(x5_1), (wrap64 (x8_1 + 1)), (by first | rfl | (simp; done) | (simp [*]; done)), (by first | rfl | (simp; done) | (simp [*]; done)), H', ⟨by have := HK1.out; omega⟩, by repeat (first | exact Drawn0.refl _ | apply Drawn0.step)⟩
        · rw [if_neg c5] at H
          exact absurd H (by simp)
      · rw [if_neg c3] at H
        have c3b0 : decide (x8_1 < 8) = false := decide_eq_false c3
        clear c3
        have H' := Aside0.mk H
        clear H
        go_wp2
        go_loopg [5, 7] k1 (fun kq v5 v7 w' => ∃ (x5_2 : Int) (x7_2 : Int), v5 = .int .i64 x5_2 ∧ v7 = .int .i64 x7_2 ∧ Aside0 (geyserref03_Mul.l1 kq x5_2 x7_2 = some r) ∧ Aside0 (kq ≤ k1) ∧ Drawn0 w w')
        case atStart => exact ⟨(x5_1), (14), (by first | rfl | (simp; done) | (simp [*]; done)), (by first | rfl | (simp; done) | (simp [*]; done)), H', ⟨Nat.le_refl _⟩, by repeat (first | exact Drawn0.refl _ | apply Drawn0.step)⟩
        case round =>
          clear H'
          try clear c1
          try clear p2
          try clear c3
          try clear c3b0
          try clear c5
          try clear c5b0
          try clear c5b1
          try clear p6
          try clear c7
          try clear c7b0
          try clear c7b1
          try clear c8
          try clear c8b0
          try clear p2
          obtain ⟨x5_2, x7_2, rfl, rfl, HA, HK2, ⟨m2, rfl⟩⟩ := hrel
          cases gk with
          | zero => exact absurd HA.out (by simp [geyserref03_Mul.l1])
          | succ k2 =>
            have H := HA.out
            clear HA
            simp only [geyserref03_Mul.l1] at H
            by_cases c10 : x7_2 ≥ 8
            · rw [if_pos c10] at H
              have c10b0 : decide (8 ≤ x7_2) = true := decide_eq_true c10
              clear c10
              obtain ⟨ji11, hji11⟩ : ∃ j_ : Int, (IntKind.u64.wrap (x7_2)) = j_ := ⟨_, rfl⟩
              replace H : (if 0 ≤ (ji11) then (if (Go.bits .and .i64 (shr .i64 x5_2 (ji11)) 1) = 1 then (if 0 ≤ (IntKind.u64.wrap (wrap64 (x7_2 - 8))) then (geyserref03_Mul.l1 k2 (Go.bits .xor .i64 x5_2 (shl .i64 285 (IntKind.u64.wrap (wrap64 (x7_2 - 8))))) (wrap64 (x7_2 - 1))) else (none)) else (geyserref03_Mul.l1 k2 x5_2 (wrap64 (x7_2 - 1)))) else (none)) = some r := by first | (rw [hji11] at H; exact H) | (simp only [hji11] at H ⊢; exact H)
              by_cases c12 : 0 ≤ (ji11)
              · rw [if_pos c12] at H
                have c12b0 := eq_true c12
                have c12b1 : decide (0 ≤ (ji11)) = true := decide_eq_true c12
                clear c12
                obtain ⟨ji13, hji13⟩ : ∃ j_ : Int, (shr .i64 x5_2 (ji11)) = j_ := ⟨_, rfl⟩
                replace H : (if (Go.bits .and .i64 (ji13) 1) = 1 then (if 0 ≤ (IntKind.u64.wrap (wrap64 (x7_2 - 8))) then (geyserref03_Mul.l1 k2 (Go.bits .xor .i64 x5_2 (shl .i64 285 (IntKind.u64.wrap (wrap64 (x7_2 - 8))))) (wrap64 (x7_2 - 1))) else (none)) else (geyserref03_Mul.l1 k2 x5_2 (wrap64 (x7_2 - 1)))) = some r := by first | (rw [hji13] at H; exact H) | (simp only [hji13] at H ⊢; exact H)
                have hji13_ : (x5_2 / 2 ^ min (ji11).toNat 64) = ji13 := hji13
                have hji13z : (ji11) ≤ 64 → (x5_2 / 2 ^ (ji11).toNat) = ji13 := shr_small hji13
                by_cases c14 : (Go.bits .and .i64 (ji13) 1) = 1
                · rw [if_pos c14] at H
                  have c14b0 : ((Go.bits .and .i64 (ji13) 1) == 1) = true := beq_iff_eq.mpr c14
                  have c14b1 : ((Go.bits .and .i64 (ji13) 1) != 1) = false := bne_eq_false_iff_eq.mpr c14
                  clear c14
                  obtain ⟨ji15, hji15⟩ : ∃ j_ : Int, (IntKind.u64.wrap (wrap64 (x7_2 - 8))) = j_ := ⟨_, rfl⟩
                  replace H : (if 0 ≤ (ji15) then (geyserref03_Mul.l1 k2 (Go.bits .xor .i64 x5_2 (shl .i64 285 (ji15))) (wrap64 (x7_2 - 1))) else (none)) = some r := by first | (rw [hji15] at H; exact H) | (simp only [hji15] at H ⊢; exact H)
                  by_cases c16 : 0 ≤ (ji15)
                  · rw [if_pos c16] at H
                    have c16b0 := eq_true c16
                    have c16b1 : decide (0 ≤ (ji15)) = true := decide_eq_true c16
                    clear c16
                    obtain ⟨ji17, hji17⟩ : ∃ j_ : Int, (shl .i64 285 (ji15)) = j_ := ⟨_, rfl⟩
                    replace H : (geyserref03_Mul.l1 k2 (Go.bits .xor .i64 x5_2 (ji17)) (wrap64 (x7_2 - 1))) = some r := by first | (rw [hji17] at H; exact H) | (simp only [hji17] at H ⊢; exact H)
                    have hji17_ : (IntKind.i64.wrap (285 * 2 ^ min (ji15).toNat 64)) = ji17 := hji17
                    have hji17z : (ji15) ≤ 64 → (IntKind.i64.wrap (285 * 2 ^ (ji15).toNat)) = ji17 := shl_small hji17
                    have hji17y : (wrap64 (285 * 2 ^ min (ji15).toNat 64)) = ji17 := (i64_w _).symm.trans hji17_
                    have hji17x : (ji15) ≤ 64 → (wrap64 (285 * 2 ^ (ji15).toNat)) = ji17 := fun h_ => (i64_w _).symm.trans (hji17z h_)
                    have H' := Aside0.mk H
                    clear H
                    go_wp2
                    go_roundg k2
                    case measure => have := HK1.out; have := HK2.out; omega
                    case rel => exact ⟨(Go.bits .xor .i64 x5_2 (ji17)), (wrap64 (x7_2 - 1)), (by first | rfl | (simp; done) | (simp only [← hji17] <;> (first | rfl | simp)) | (simp [*]; done)), (by first | rfl | (simp; done) | (simp [*]; done)), H', ⟨by have := HK1.out; have := HK2.out; omega⟩, by repeat (first | exact Drawn0.refl _ | apply Drawn0.step)⟩
                  · rw [if_neg c16] at H
                    exact absurd H (by simp)
                · rw [if_neg c14] at H
                  have c14b0 : ((Go.bits .and .i64 (ji13) 1) == 1) = false := beq_eq_false_iff_ne.mpr c14
                  have c14b1 : ((Go.bits .and .i64 (ji13) 1) != 1) = true := bne_iff_ne.mpr c14
                  have H' := Aside0.mk H
                  clear H
                  go_wp2
                  go_roundg k2
                  case measure => have := HK1.out; have := HK2.out; omega
                  case rel => exact ⟨(x5_2), (wrap64 (x7_2 - 1)), (by first | rfl | (simp; done) | (simp [*]; done)), (by first | rfl | (simp; done) | (simp [*]; done)), H', ⟨by have := HK1.out; have := HK2.out; omega⟩, by repeat (first | exact Drawn0.refl _ | apply Drawn0.step)⟩
              · rw [if_neg c12] at H
                exact absurd H (by simp)
            · rw [if_neg c10] at H
              have c10b0 : decide (8 ≤ x7_2) = false := decide_eq_false c10
              clear c10
              obtain rfl := Option.some.inj H
              go_wp2
              go_ret
              exact ⟨by first | rfl | (simp; done) | (simp [*]; done), by repeat (first | exact Drawn0.refl _ | apply Drawn0.step)⟩

/-! ### geyserref03_Plus: function 9 -/
def geyserref03_Plus.l0 : Nat → List Int → List Int → Int → List Int → Int → Int → Option (List Int)
  | 0, _, _, _, _, _, _ => none
  | k + 1, x0, x1, x2, x7, x13, x14 => if x14 < x13 then (if 0 ≤ x14 then (if x14 < (x0.length : Int) then (if x14 < (x1.length : Int) then ((geyserref03_Mul.f k (rd x1 x14) x2).bind fun t114 => (if x14 < (x7.length : Int) then (geyserref03_Plus.l0 k x0 x1 x2 (x7.set (x14 : Int).toNat (Go.bits .xor .u8 (rd x0 x14) t114)) x13 (wrap64 (x14 + 1))) else (none))) else (none)) else (none)) else (none)) else (some x7)
def geyserref03_Plus.f (k : Nat) (l0 : List Int) (l1 : List Int) (a2 : Int) : Option (List Int) := if 0 ≤ (l0.length : Int) then (if ((l0.length : Int) : Int).toNat ≤ 281474976710656 then (geyserref03_Plus.l0 k l0 l1 a2 (List.replicate ((l0.length : Int) : Int).toNat 0) (l0.length : Int) 0) else (none)) else (none)
theorem geyserref03_Plus.mono_l : ∀ k, (∀ y0 y1 y2 y3 y4 y5, LeO (geyserref03_Plus.l0 k y0 y1 y2 y3 y4 y5) (geyserref03_Plus.l0 (k + 1) y0 y1 y2 y3 y4 y5))
  | 0 => fun _ _ _ _ _ _ r h => by simp [geyserref03_Plus.l0] at h
  | k + 1 => by
    have ih0 := geyserref03_Plus.mono_l k
    · intro y0 y1 y2 y3 y4 y5
      unfold geyserref03_Plus.l0
      repeat' first
      | (with_reducible exact ih0 _ _ _ _ _ _)
      | (with_reducible exact geyserref03_Mul.mono _ _ _)
      | (with_reducible exact LeO.refl _)
      | (with_reducible exact LeO.none _)
      | (with_reducible refine LeO.ite ?_ ?_)
      | (with_reducible refine LeO.bind ?_ (fun _ => ?_))
      | exact ih0 _ _ _ _ _ _
      | exact geyserref03_Mul.mono _ _ _
      | exact LeO.none _
      | refine LeO.ite ?_ ?_
      | refine LeO.bind ?_ (fun _ => ?_)
theorem geyserref03_Plus.mono : ∀ a0 a1 a2 k, LeO (geyserref03_Plus.f k a0 a1 a2) (geyserref03_Plus.f (k + 1) a0 a1 a2) := by
  intro a0 a1 a2 k
  have ih0 := geyserref03_Plus.mono_l k
  unfold geyserref03_Plus.f
  repeat' first
      | (with_reducible exact ih0 _ _ _ _ _ _)
      | (with_reducible exact geyserref03_Mul.mono _ _ _)
      | (with_reducible exact LeO.refl _)
      | (with_reducible exact LeO.none _)
      | (with_reducible refine LeO.ite ?_ ?_)
      | (with_reducible refine LeO.bind ?_ (fun _ => ?_))
      | exact ih0 _ _ _ _ _ _
      | exact geyserref03_Mul.mono _ _ _
      | exact LeO.none _
      | refine LeO.ite ?_ ?_
      | refine LeO.bind ?_ (fun _ => ?_)
def geyserref03_Plus.T5 : Bool × List (List Nat × List Nat) := (true, [([], []), ([], []), ([], []), ([], []), ([2, 3], [2, 3]), ([4], [4]), ([], []), ([], []), ([6, 7], [6, 7]), ([8], [8]), ([], []), ([9, 10], [9, 10]), ([5, 11], [5, 11]), ([0, 1, 0, 1, 2, 3, 4, 5, 6, 7, 8, 9, 10, 11, 12], [0, 1]), ([13, 12, 11, 0, 1, 2, 3, 4, 5, 6, 7, 8, 9, 10, 11, 12], [12, 13])])
def geyserref03_Plus.B5 : List Nat := [0, 0, 0, 0, 12, 28, 0, 0, 192, 448, 0, 1984, 4092, 8191, 16383]
theorem geyserref03_Plus.tab5 : rtab .any (opsOf Tryd.f9 5) = geyserref03_Plus.T5 := by kernel_rfl
theorem geyserref03_Plus.bits5 : waitsOk geyserref03_Plus.T5.2 geyserref03_Plus.B5 = true := by kernel_rfl
set_option maxHeartbeats 8000000 in
set_option maxRecDepth 100000 in
theorem geyserref03_Plus.calls (k : Nat) (A0 : Option Addr) (c0 : Nat) (l0 : List Int) (A1 : Option Addr) (c1 : Nat) (l1 : List Int) (a2 : Int) (r : List Int) (w : World) (hr0 : Kd.C (Kd.int .u8) w A0 l0.length l0) (hc0 : l0.length ≤ c0) (hr1 : Kd.C (Kd.int .u8) w A1 l1.length l1) (hc1 : l1.length ≤ c1) (h : geyserref03_Plus.f k l0 l1 a2 = some r) :
    Calls Tryd.prog 9 #[.slice A0 l0.length c0, .slice A1 l1.length c1, .int .u8 a2] w fun e w' => ∃ v0_ : Value, e = .returned (v0_) ∧ Kd.R (Kd.int .u8) 5 w' w.heap.size (fun _ => True) v0_ r ∧ Below w.heap.size w w' := by
  have HR0 := Aside0.mk hr0
  have HC0 := Aside0.mk hc0
  clear hr0 hc0
  have HR1 := Aside0.mk hr1
  have HC1 := Aside0.mk hc1
  clear hr1 hc1
  have HB := Aside0.mk (Below.refl w.heap.size w)
  have H : (if 0 ≤ (l0.length : Int) then (if ((l0.length : Int) : Int).toNat ≤ 281474976710656 then (geyserref03_Plus.l0 k l0 l1 a2 (List.replicate ((l0.length : Int) : Int).toNat 0) (l0.length : Int) 0) else (none)) else (none)) = some r := h
  clear h
  by_cases c4 : 0 ≤ (l0.length : Int)
  · rw [if_pos c4] at H
    have c4b0 := eq_true c4
    have c4b1 : decide (0 ≤ (l0.length : Int)) = true := decide_eq_true c4
    clear c4
    by_cases c5 : ((l0.length : Int) : Int).toNat ≤ 281474976710656
    · rw [if_pos c5] at H
      have c5b0 := eq_true c5
      have c5b1 : decide (((l0.length : Int) : Int).toNat ≤ 281474976710656) = true := decide_eq_true c5
      clear c5
      obtain ⟨y109, hy109⟩ : ∃ y_ : List Int, y_ = (List.replicate ((l0.length : Int) : Int).toNat 0) := ⟨_, rfl⟩
      replace H : (geyserref03_Plus.l0 k l0 l1 a2 y109 (l0.length : Int) 0) = some r := by first | (rw [hy109]; with_reducible exact H) | (have H2_ := (Option.bind_some _ _).symm.trans H; rw [hy109]; with_reducible exact H2_) | (have H2_ := (Option.bind_some _ _).symm.trans H; with_reducible exact H2_) | with_reducible exact H | (rw [hy109]; exact H) | exact H
      have Ny109 := Aside0.mk hy109
      clear hy109
      have H' := Aside0.mk H
      clear H
      go_enter Tryd.func9, Tryd.ntmps9
      go_wp2_with (first | ((with_reducible refine gate_dst (N := 11) rfl ?_); refine Kd.R_make (Kd.int .u8) _ 5 rfl (N := 11) rfl 22 _ _ rfl (l0.length : Int) rfl rfl Tryd.underlying22 (.int .u8 0) 1 info5 rfl (by decide) (by omega) 0 (ok := fun _ => True) (okp := fun _ => True) rfl (fun _ hk => hk) trivial (of_decide_eq_true (by first | (with_reducible assumption) | assumption)) (Nat.le_trans (Nat.mul_le_mul_right _ (of_decide_eq_true (by first | (with_reducible assumption) | assumption) : (l0.length : Int).toNat ≤ 281474976710656)) (by omega)) (Below.refl _ _) (Nat.le_refl _) ?_; intro v110 w6 ho7 hb hg_ hnew_; clear hg_ hnew_; (first | rw [← Ny109.out] at ho7 | (simp only [Int.reduceToNat] at ho7; rw [← Ny109.out] at ho7)); have n0_ := Aside0.mk (Kd.R_lower ho7 (below_size (by repeat (first | (with_reducible first | exact HB.out | apply below_alloc | apply pw_below_drewN | apply below_drew1) | exact HB.out)))); have n1_ := Aside0.mk (below_step (by repeat (first | (with_reducible first | exact HB.out | apply below_alloc | apply pw_below_drewN | apply below_drew1) | exact HB.out)) hb); clear HB; have HO111 := n0_; have HB := n1_; clear n0_ n1_; clear hb ho7))
      go_loopg [14] k (fun kq v14 w' => ∃ (x7_1 : List Int) (x14_1 : Int), v14 = .int .i64 x14_1 ∧ Aside0 (geyserref03_Plus.l0 kq l0 l1 a2 x7_1 (l0.length : Int) x14_1 = some r) ∧ Aside0 (kq ≤ k) ∧ Aside0 (Kd.R (Kd.int .u8) 5 w' w.heap.size (fun _ => True) v110 x7_1) ∧ Aside0 (Below w.heap.size w w'))
      case atStart => exact ⟨(y109), (0), (by first | rfl | (simp; done) | (simp [*]; done)), H', ⟨Nat.le_refl _⟩, ⟨by (with_reducible repeat (first | apply Kd.R_alloc | apply Kd.R_drewN | apply Kd.R_drew)); exact HO111.out⟩, ⟨by repeat (first | (with_reducible first | exact HB.out | apply below_alloc | apply pw_below_drewN | apply below_drew1) | exact HB.out)⟩⟩
      case round =>
        clear H'
        try clear c1
        try clear p2
        try clear c4
        try clear c4b0
        try clear c4b1
        try clear c5
        try clear c5b0
        try clear c5b1
        obtain ⟨x7_1, x14_1, rfl, HA, HK1, HO_7, HB⟩ := hrel
        cases gk with
        | zero => exact absurd HA.out (by simp [geyserref03_Plus.l0])
        | succ k1 =>
          have H := HA.out
          clear HA
          simp only [geyserref03_Plus.l0] at H
          by_cases c8 : x14_1 < (l0.length : Int)
          · rw [if_pos c8] at H
            have c8b0 : decide (x14_1 < (l0.length : Int)) = true := decide_eq_true c8
            clear c8
            by_cases c9 : 0 ≤ x14_1
            · rw [if_pos c9] at H
              have c9b0 : decide (0 ≤ x14_1) = true := decide_eq_true c9
              clear c9
              by_cases c10 : x14_1 < (l0.length : Int)
              · rw [if_pos c10] at H
                have c10b0 : decide (x14_1 < (l0.length : Int)) = true := decide_eq_true c10
                clear c10
                by_cases c11 : x14_1 < (l1.length : Int)
                · rw [if_pos c11] at H
                  have c11b0 : decide (x14_1 < (l1.length : Int)) = true := decide_eq_true c11
                  clear c11
                  replace H := Option.bind_eq_some_iff.mp H
                  obtain ⟨t114, A120, H⟩ := H
                  replace H : (if x14_1 < (x7_1.length : Int) then (geyserref03_Plus.l0 k1 l0 l1 a2 (x7_1.set (x14_1 : Int).toNat (Go.bits .xor .u8 (rd l0 x14_1) t114)) (l0.length : Int) (wrap64 (x14_1 + 1))) else (none)) = some r := H
                  have A12 := Aside0.mk A120
                  clear A120
                  by_cases c13 : x14_1 < (x7_1.length : Int)
                  · rw [if_pos c13] at H
                    have c13b0 : decide (x14_1 < (x7_1.length : Int)) = true := decide_eq_true c13
                    clear c13
                    obtain ⟨y115, hy115⟩ : ∃ y_ : List Int, y_ = (x7_1.set (x14_1 : Int).toNat (Go.bits .xor .u8 (rd l0 x14_1) t114)) := ⟨_, rfl⟩
                    replace H : (geyserref03_Plus.l0 k1 l0 l1 a2 y115 (l0.length : Int) (wrap64 (x14_1 + 1))) = some r := by first | (rw [hy115]; with_reducible exact H) | (have H2_ := (Option.bind_some _ _).symm.trans H; rw [hy115]; with_reducible exact H2_) | (have H2_ := (Option.bind_some _ _).symm.trans H; with_reducible exact H2_) | with_reducible exact H | (rw [hy115]; exact H) | exact H
                    have Ny115 := Aside0.mk hy115
                    clear hy115
                    have H' := Aside0.mk H
                    clear H
                    try go_wp2
                    have n0_ := Aside0.mk (Kd.R_drew HO_7.out)
                    have n1_ := Aside0.mk (below_drew1 HB.out)
                    clear HO_7
                    clear HB
                    have HO_7 := n0_
                    have HB := n1_
                    clear n0_ n1_
                    have p112 : 0 ≤ (x14_1 : Int) := of_decide_eq_true (by first | (with_reducible assumption) | assumption)
                    have q112 : x14_1 < (l0.length : Int) := of_decide_eq_true (by first | (with_reducible assumption) | assumption)
                    obtain ⟨ad112, e112, hx112_0⟩ := Kd.at_int HR0.out x14_1 p112 q112
                    have hw112_0 := hx112_0
                    cases e112
                    (first | (replace hx112_0 := (HB.out.cell (World.block_lt_of_cell? w _ hx112_0)).trans hx112_0) | skip)
                    replace p112 := eq_true p112
                    replace q112 := eq_true q112
                    have p113 : 0 ≤ (x14_1 : Int) := of_decide_eq_true (by first | (with_reducible assumption) | assumption)
                    have q113 : x14_1 < (l1.length : Int) := of_decide_eq_true (by first | (with_reducible assumption) | assumption)
                    obtain ⟨ad113, e113, hx113_0⟩ := Kd.at_int HR1.out x14_1 p113 q113
                    have hw113_0 := hx113_0
                    cases e113
                    (first | (replace hx113_0 := (HB.out.cell (World.block_lt_of_cell? w _ hx113_0)).trans hx113_0) | skip)
                    replace p113 := eq_true p113
                    replace q113 := eq_true q113
                    refine start_ (n := 15) (S := fun w' => w'.cell? (ad112.add (x14_1).toNat) = some (.int .u8 (rd l0 x14_1)) ∧ w'.cell? (ad113.add (x14_1).toNat) = some (.int .u8 (rd l1 x14_1))) (ds := [14]) #[false, false, false, false, false, false, false, false, false, false, false, false, false, false, false] (by kernel_rfl) rfl rfl ⟨((HB.out.cell (World.block_lt_of_cell? w _ hw112_0)).trans hw112_0), ((HB.out.cell (World.block_lt_of_cell? w _ hw113_0)).trans hw113_0)⟩ (fun hHeld => ?_); refine with_tabW geyserref03_Plus.tab5 geyserref03_Plus.bits5 (fun HT_ HW_ => ?_)
                    generalize wr.drew = w15 at HO_7 HB hx112_0 hx113_0 hHeld ⊢
                    refine pure_ (i := 0) (N := some 17) (v := ?_) (a' := ?_) #[true, false, false, false, false, false, false, false, false, false, false, false, false, false, false] rfl rfl (any_of HT_.out (by kernel_rfl)) (fun _ _ _ h => h) (Or.inl ⟨by rfl, ?_⟩) ?_ ?_
                    rotate_left
                    · intro w'
                      go_simp
                      with_reducible rfl
                    rotate_left
                    · simp only [Act.put, List.setIfInBounds_toArray, List.set_cons_zero, List.set_cons_succ, i64_w, i32_w]
                      rfl
                    refine pure_ (i := 1) (N := some 18) (v := ?_) (a' := ?_) #[true, true, false, false, false, false, false, false, false, false, false, false, false, false, false] rfl rfl (any_of HT_.out (by kernel_rfl)) (fun _ _ _ h => h) (Or.inl ⟨by rfl, ?_⟩) ?_ ?_
                    rotate_left
                    · intro w'
                      go_simp
                      with_reducible rfl
                    rotate_left
                    · simp only [Act.put, List.setIfInBounds_toArray, List.set_cons_zero, List.set_cons_succ, i64_w, i32_w]
                      rfl
                    refine pure_ (i := 2) (N := some 19) (v := ?_) (a' := ?_) #[true, true, true, false, false, false, false, false, false, false, false, false, false, false, false] rfl rfl (any_of HT_.out (by kernel_rfl)) (fun _ _ _ h => h) (Or.inl ⟨by rfl, ?_⟩) ?_ ?_
                    rotate_left
                    · intro w'
                      go_simp
                      with_reducible rfl
                    rotate_left
                    · simp only [Act.put, List.setIfInBounds_toArray, List.set_cons_zero, List.set_cons_succ, i64_w, i32_w]
                      rfl
                    refine pure_ (i := 3) (N := some 20) (v := ?_) (a' := ?_) #[true, true, true, true, false, false, false, false, false, false, false, false, false, false, false] rfl rfl (any_of HT_.out (by kernel_rfl)) (fun _ _ _ h => h) (Or.inl ⟨by rfl, ?_⟩) ?_ ?_
                    rotate_left
                    · intro w'
                      go_simp
                      with_reducible rfl
                    rotate_left
                    · simp only [Act.put, List.setIfInBounds_toArray, List.set_cons_zero, List.set_cons_succ, i64_w, i32_w]
                      rfl
                    refine pure_ (i := 4) (N := some 21) (v := ?_) (a' := ?_) #[true, true, true, true, true, false, false, false, false, false, false, false, false, false, false] rfl rfl (any_of HT_.out (by kernel_rfl)) (fun _ _ _ h => h) (Or.inl ⟨by rfl, ?_⟩) ?_ ?_
                    rotate_left
                    · intro w'
                      go_simp
                      with_reducible rfl
                    rotate_left
                    · simp only [Act.put, List.setIfInBounds_toArray, List.set_cons_zero, List.set_cons_succ, i64_w, i32_w]
                      rfl
                    refine pure_ (i := 6) (N := some 23) (v := ?_) (a' := ?_) #[true, true, true, true, true, false, true, false, false, false, false, false, false, false, false] rfl rfl (any_of HT_.out (by kernel_rfl)) (fun _ _ _ h => h) (Or.inl ⟨by rfl, ?_⟩) ?_ ?_
                    rotate_left
                    · intro w'
                      go_simp
                      with_reducible rfl
                    rotate_left
                    · simp only [Act.put, List.setIfInBounds_toArray, List.set_cons_zero, List.set_cons_succ, i64_w, i32_w]
                      rfl
                    refine pure_ (i := 7) (N := some 24) (v := ?_) (a' := ?_) #[true, true, true, true, true, false, true, true, false, false, false, false, false, false, false] rfl rfl (any_of HT_.out (by kernel_rfl)) (fun _ _ _ h => h) (Or.inl ⟨by rfl, ?_⟩) ?_ ?_
                    rotate_left
                    · intro w'
                      go_simp
                      with_reducible rfl
                    rotate_left
                    · simp only [Act.put, List.setIfInBounds_toArray, List.set_cons_zero, List.set_cons_succ, i64_w, i32_w]
                      rfl
                    refine pure_ (i := 8) (N := some 25) (v := ?_) (a' := ?_) #[true, true, true, true, true, false, true, true, true, false, false, false, false, false, false] rfl rfl (any_of HT_.out (by kernel_rfl)) (fun _ _ _ h => h) (Or.inl ⟨by rfl, ?_⟩) ?_ ?_
                    rotate_left
                    · intro w'
                      go_simp
                      with_reducible rfl
                    rotate_left
                    · simp only [Act.put, List.setIfInBounds_toArray, List.set_cons_zero, List.set_cons_succ, i64_w, i32_w]
                      rfl
                    refine pure_ (i := 10) (N := some 27) (v := ?_) (a' := ?_) #[true, true, true, true, true, false, true, true, true, false, true, false, false, false, false] rfl rfl (any_of HT_.out (by kernel_rfl)) (fun _ _ _ h => h) (Or.inl ⟨by rfl, ?_⟩) ?_ ?_
                    rotate_left
                    · intro w'
                      go_simp
                      with_reducible rfl
                    rotate_left
                    · simp only [Act.put, List.setIfInBounds_toArray, List.set_cons_zero, List.set_cons_succ, i64_w, i32_w]
                      rfl
                    refine take_ (i := 5) (N := some 22) (v := ?_) (a' := ?_) #[true, true, true, true, true, true, true, true, true, false, true, false, false, false, false] rfl rfl (take_ofW HT_.out HW_.out (by kernel_rfl)) (fun _ _ _ h => h) (Or.inl ⟨by rfl, ?_⟩) hHeld ?_ ?_
                    rotate_left
                    · rintro w' ⟨s0, s1⟩
                      go_simp
                      with_reducible rfl
                    rotate_left
                    · simp only [Act.put, List.setIfInBounds_toArray, List.set_cons_zero, List.set_cons_succ, i64_w, i32_w]
                      rfl
                    refine take_ (i := 9) (N := some 26) (v := ?_) (a' := ?_) #[true, true, true, true, true, true, true, true, true, true, true, false, false, false, false] rfl rfl (take_ofW HT_.out HW_.out (by kernel_rfl)) (fun _ _ _ h => h) (Or.inl ⟨by rfl, ?_⟩) hHeld ?_ ?_
                    rotate_left
                    · rintro w' ⟨s0, s1⟩
                      go_simp
                      with_reducible rfl
                    rotate_left
                    · simp only [Act.put, List.setIfInBounds_toArray, List.set_cons_zero, List.set_cons_succ, i64_w, i32_w]
                      rfl
                    refine one_ (i := 11) (N := some 28) #[true, true, true, true, true, true, true, true, true, true, true, true, false, false, false] rfl rfl (one_of HT_.out (by kernel_rfl)) (by decide) (fun K hK => ?_)
                    refine goes_ Tryd.func13 (by kernel_rfl) rfl #[.int .u8 (rd l1 x14_1), .int .u8 a2] (by rfl) rfl rfl (by (try simp only [List.map_toArray, List.map_cons, List.map_nil]); first | done | rfl | (simp only [List.length_drop, List.length_take]; rfl)) ?_
                    with_reducible refine (geyserref03_Mul.calls k1 (rd l1 x14_1) a2 t114 _ A12.out).mono ?_
                    rintro e w' ⟨rfl, ⟨nd, rfl⟩⟩
                    refine ⟨_, rfl, ?_⟩
                    have p14 : 0 ≤ (x14_1 : Int) := of_decide_eq_true (by first | (with_reducible assumption) | assumption)
                    have q14 : (x14_1 : Int) < ((x7_1.length : Int) : Int) := of_decide_eq_true (by first | (with_reducible assumption) | assumption)
                    obtain ⟨go14, co14, eo14, gb14, gl14, cl14, HG14⟩ := Kd.R_form HO_7.out (by omega)
                    (first | cases eo14 | (injection eo14 with ea_ en_ ec_; (first | subst ea_ | (injection ea_ with ea_; subst ea_)); subst ec_; clear en_))
                    have GB14 := Aside0.mk gb14
                    have GG14 := Aside0.mk HG14
                    clear gb14 gl14 HG14
                    obtain ⟨hx14_0, hf14_0⟩ := Kd.R_celln 0 HO_7.out (x14_1 : Int) p14 q14
                    replace p14 := eq_true p14
                    replace q14 := eq_true q14
                    have HP16 := Kd.R_putn HO_7.out (x14_1 : Int) (Go.bits .xor .u8 (rd l0 x14_1) t114)
                    rw [← Ny115.out] at HP16
                    have HQ16 := Aside0.mk HP16
                    clear HP16
                    refine hK.out _ _ ⟨((HB.out.cell (World.block_lt_of_cell? w _ hw112_0)).trans hw112_0), ((HB.out.cell (World.block_lt_of_cell? w _ hw113_0)).trans hw113_0)⟩ (fun hHeld => ?_)
                    clear hK K
                    refine norm_ (a' := ?_) ?_ ?_
                    rotate_left
                    · show Act.put _ (some 28) _ = _
                      simp only [Act.put, List.setIfInBounds_toArray, List.set_cons_zero, List.set_cons_succ, i64_w, i32_w]
                      rfl
                    refine pure_ (i := 12) (N := some 29) (v := ?_) (a' := ?_) #[true, true, true, true, true, true, true, true, true, true, true, true, true, false, false] rfl rfl (any_of HT_.out (by kernel_rfl)) (fun _ _ _ h => h) (Or.inl ⟨by rfl, ?_⟩) ?_ ?_
                    rotate_left
                    · intro w'
                      go_simp
                      with_reducible rfl
                    rotate_left
                    · simp only [Act.put, List.setIfInBounds_toArray, List.set_cons_zero, List.set_cons_succ, i64_w, i32_w]
                      rfl
                    refine pure_ (i := 13) (N := some 30) (v := ?_) (a' := ?_) #[true, true, true, true, true, true, true, true, true, true, true, true, true, true, false] rfl rfl (any_of HT_.out (by kernel_rfl)) (fun _ _ _ h => h) (Or.inl ⟨by rfl, ?_⟩) ?_ ?_
                    rotate_left
                    · intro w'
                      go_simp
                      with_reducible rfl
                    rotate_left
                    · simp only [Act.put, List.setIfInBounds_toArray, List.set_cons_zero, List.set_cons_succ, i64_w, i32_w]
                      rfl
                    refine last_ (i := 14) (N := none) #[true, true, true, true, true, true, true, true, true, true, true, true, true, true, true] rfl rfl (one_of HT_.out (by kernel_rfl)) (by decide) (fun K hK => ?_)
                    refine skip_ (w1 := ?_) (by rfl) rfl ?_ ?_
                    rotate_left
                    · go_simp
                      rfl
                    refine hK.out _ _ ?_
                    clear hK K
                    refine done_ (done_of HT_.out (by kernel_rfl)) ?_
                    try go_wp2
                    go_roundg k1
                    case measure => have := HK1.out; omega
                    case rel => exact ⟨(y115), (wrap64 (x14_1 + 1)), (by first | rfl | (simp; done) | (simp [*]; done)), H', ⟨by have := HK1.out; omega⟩, ⟨by (with_reducible repeat (first | apply Kd.R_alloc | apply Kd.R_drewN | apply Kd.R_drew)); exact HQ16.out⟩, ⟨by repeat (first | (with_reducible first | exact HB.out | apply below_alloc | apply pw_below_drewN | apply below_drew1 | refine below_set ?_ GB14.out) | exact HB.out)⟩⟩
                  · rw [if_neg c13] at H
                    exact absurd H (by simp)
                · rw [if_neg c11] at H
                  exact absurd H (by simp)
              · rw [if_neg c10] at H
                exact absurd H (by simp)
            · rw [if_neg c9] at H
              exact absurd H (by simp)
          · rw [if_neg c8] at H
            have c8b0 : decide (x14_1 < (l0.length : Int)) = false := decide_eq_false c8
            clear c8
            obtain rfl := Option.some.inj H
            go_wp2
            go_ret
            exact ⟨_, by first | rfl | (simp [errW_none, errW_some] <;> rfl) | (simp [*, errW_none, errW_some] <;> rfl), by (with_reducible repeat (first | apply Kd.R_alloc | apply Kd.R_drewN | apply Kd.R_drew)); exact HO_7.out, by repeat (first | (with_reducible first | exact HB.out | apply below_alloc | apply pw_below_drewN | apply below_drew1) | exact HB.out)⟩
    · rw [if_neg c5] at H
      exact absurd H (by simp)
  · rw [if_neg c4] at H
    exact absurd H (by simp)

end Go.Proofs.YtcmigmldecacpaaDoor.QDenseSolves
/- Machine-made by a program of this claim: functions of the Go program as Lean functions, and that its calls do what these say. Lean checks it. -/
namespace Go.Proofs.YtcmigmldecacpaaDoor.QDenseSolves
open Go.RowKit Go.Proofs.YtcmigmldecacpaaDoorW.PrintWords Go.Proofs.YtcmigmldecacpaaDoorW.PrintLast Go.Proofs.YtcmigmldecacpaaDoorW.PrintMore Go.Proofs.YtcmigmldecacpaaDoor.Giv
attribute [local go_sem] max2_int min2_int max_two min_two max_three min_three max_four min_four   -- for this text's walks alone
set_option linter.unusedVariables false
set_option linter.unusedSimpArgs false

/-! ### geyserref03_Symbol: function 17 -/
def geyserref03_Symbol.l0 : Nat → List (List Int) → Int → List Int → List Int → Int → Int → Option (List Int)
  | 0, _, _, _, _, _, _ => none
  | k + 1, x0, x1, x2, x7, x12, x13 => if x13 < x12 then (if 0 ≤ x13 then (if x13 < (x0.length : Int) then ((geyserref03_Fill.f (rd_L1 x0 x13) x1).bind fun t120 => (if x13 < (x2.length : Int) then ((geyserref03_Plus.f k x7 t120 (rd x2 x13)).bind fun t124 => (geyserref03_Symbol.l0 k x0 x1 x2 t124 x12 (wrap64 (x13 + 1)))) else (none))) else (none)) else (none)) else (some x7)
def geyserref03_Symbol.f (k : Nat) (l0 : List (List Int)) (a1 : Int) (l2 : List Int) : Option (List Int) := if 0 ≤ a1 then (if (a1 : Int).toNat ≤ 281474976710656 then (geyserref03_Symbol.l0 k l0 a1 l2 (List.replicate (a1 : Int).toNat 0) (l0.length : Int) 0) else (none)) else (none)
theorem geyserref03_Symbol.mono_l : ∀ k, (∀ y0 y1 y2 y3 y4 y5, LeO (geyserref03_Symbol.l0 k y0 y1 y2 y3 y4 y5) (geyserref03_Symbol.l0 (k + 1) y0 y1 y2 y3 y4 y5))
  | 0 => fun _ _ _ _ _ _ r h => by simp [geyserref03_Symbol.l0] at h
  | k + 1 => by
    have ih0 := geyserref03_Symbol.mono_l k
    · intro y0 y1 y2 y3 y4 y5
      unfold geyserref03_Symbol.l0
      repeat' first
      | (with_reducible exact ih0 _ _ _ _ _ _)
      | (with_reducible exact geyserref03_Plus.mono _ _ _ _)
      | (with_reducible exact LeO.refl _)
      | (with_reducible exact LeO.none _)
      | (with_reducible refine LeO.ite ?_ ?_)
      | (with_reducible refine LeO.bind ?_ (fun _ => ?_))
      | exact ih0 _ _ _ _ _ _
      | exact geyserref03_Plus.mono _ _ _ _
      | exact LeO.none _
      | refine LeO.ite ?_ ?_
      | refine LeO.bind ?_ (fun _ => ?_)
theorem geyserref03_Symbol.mono : ∀ a0 a1 a2 k, LeO (geyserref03_Symbol.f k a0 a1 a2) (geyserref03_Symbol.f (k + 1) a0 a1 a2) := by
  intro a0 a1 a2 k
  have ih0 := geyserref03_Symbol.mono_l k
  unfold geyserref03_Symbol.f
  repeat' first
      | (with_reducible exact ih0 _ _ _ _ _ _)
      | (with_reducible exact geyserref03_Plus.mono _ _ _ _)
      | (with_reducible exact LeO.refl _)
      | (with_reducible exact LeO.none _)
      | (with_reducible refine LeO.ite ?_ ?_)
      | (with_reducible refine LeO.bind ?_ (fun _ => ?_))
      | exact ih0 _ _ _ _ _ _
      | exact geyserref03_Plus.mono _ _ _ _
      | exact LeO.none _
      | refine LeO.ite ?_ ?_
      | refine LeO.bind ?_ (fun _ => ?_)
def geyserref03_Symbol.T5 : Bool × List (List Nat × List Nat) := (true, [([], []), ([], []), ([], []), ([1, 2], [1, 2]), ([3], [3]), ([], []), ([4, 5], [4, 5]), ([], []), ([], []), ([7, 8], [7, 8]), ([9], [9]), ([0, 6, 10, 6], [0, 6, 10]), ([11, 11, 0, 1, 2, 3, 4, 5, 6, 7, 8, 9, 10, 11], [0, 11])])
def geyserref03_Symbol.B5 : List Nat := [0, 0, 0, 6, 14, 0, 62, 0, 0, 384, 896, 2047, 4095]
theorem geyserref03_Symbol.tab5 : rtab .any (opsOf Tryd.f17 5) = geyserref03_Symbol.T5 := by kernel_rfl
theorem geyserref03_Symbol.bits5 : waitsOk geyserref03_Symbol.T5.2 geyserref03_Symbol.B5 = true := by kernel_rfl
set_option maxHeartbeats 8000000 in
set_option maxRecDepth 100000 in
theorem geyserref03_Symbol.calls (k : Nat) (A0 : Option Addr) (c0 : Nat) (l0 : List (List Int)) (a1 : Int) (A2 : Option Addr) (c2 : Nat) (l2 : List Int) (r : List Int) (w : World) (hr0 : Kd.C (Kd.slice 5 (Kd.int .u8)) w A0 l0.length l0) (hc0 : l0.length ≤ c0) (hr2 : Kd.C (Kd.int .u8) w A2 l2.length l2) (hc2 : l2.length ≤ c2) (h : geyserref03_Symbol.f k l0 a1 l2 = some r) :
    Calls Tryd.prog 17 #[.slice A0 l0.length c0, .int .i64 a1, .slice A2 l2.length c2] w fun e w' => ∃ v0_ : Value, e = .returned (v0_) ∧ Kd.R (Kd.int .u8) 5 w' w.heap.size (fun _ => True) v0_ r ∧ Below w.heap.size w w' := by
  have HR0 := Aside0.mk hr0
  have HC0 := Aside0.mk hc0
  clear hr0 hc0
  have HR2 := Aside0.mk hr2
  have HC2 := Aside0.mk hc2
  clear hr2 hc2
  have HB := Aside0.mk (Below.refl w.heap.size w)
  have H : (if 0 ≤ a1 then (if (a1 : Int).toNat ≤ 281474976710656 then (geyserref03_Symbol.l0 k l0 a1 l2 (List.replicate (a1 : Int).toNat 0) (l0.length : Int) 0) else (none)) else (none)) = some r := h
  clear h
  by_cases c4 : 0 ≤ a1
  · rw [if_pos c4] at H
    have c4b0 := eq_true c4
    have c4b1 : decide (0 ≤ a1) = true := decide_eq_true c4
    clear c4
    by_cases c5 : (a1 : Int).toNat ≤ 281474976710656
    · rw [if_pos c5] at H
      have c5b0 := eq_true c5
      have c5b1 : decide ((a1 : Int).toNat ≤ 281474976710656) = true := decide_eq_true c5
      clear c5
      obtain ⟨y116, hy116⟩ : ∃ y_ : List Int, y_ = (List.replicate (a1 : Int).toNat 0) := ⟨_, rfl⟩
      replace H : (geyserref03_Symbol.l0 k l0 a1 l2 y116 (l0.length : Int) 0) = some r := by first | (rw [hy116]; with_reducible exact H) | (have H2_ := (Option.bind_some _ _).symm.trans H; rw [hy116]; with_reducible exact H2_) | (have H2_ := (Option.bind_some _ _).symm.trans H; with_reducible exact H2_) | with_reducible exact H | (rw [hy116]; exact H) | exact H
      have Ny116 := Aside0.mk hy116
      clear hy116
      have H' := Aside0.mk H
      clear H
      go_enter Tryd.func17, Tryd.ntmps17
      go_wp2_with (first | ((with_reducible refine gate_dst (N := 10) rfl ?_); refine Kd.R_make (Kd.int .u8) _ 5 rfl (N := 10) rfl 22 _ _ rfl a1 rfl rfl Tryd.underlying22 (.int .u8 0) 1 info5 rfl (by decide) (by omega) 0 (ok := fun _ => True) (okp := fun _ => True) rfl (fun _ hk => hk) trivial (of_decide_eq_true (by first | (with_reducible assumption) | assumption)) (Nat.le_trans (Nat.mul_le_mul_right _ (of_decide_eq_true (by first | (with_reducible assumption) | assumption) : a1.toNat ≤ 281474976710656)) (by omega)) (Below.refl _ _) (Nat.le_refl _) ?_; intro v117 w6 ho7 hb hg_ hnew_; clear hg_ hnew_; (first | rw [← Ny116.out] at ho7 | (simp only [Int.reduceToNat] at ho7; rw [← Ny116.out] at ho7)); have n0_ := Aside0.mk (Kd.R_lower ho7 (below_size (by repeat (first | (with_reducible first | exact HB.out | apply below_alloc | apply pw_below_drewN | apply below_drew1) | exact HB.out)))); have n1_ := Aside0.mk (below_step (by repeat (first | (with_reducible first | exact HB.out | apply below_alloc | apply pw_below_drewN | apply below_drew1) | exact HB.out)) hb); clear HB; have HO118 := n0_; have HB := n1_; clear n0_ n1_; clear hb ho7))
      go_loopg [7, 13] k (fun kq v7 v13 w' => ∃ (x7_1 : List Int) (x13_1 : Int), v13 = .int .i64 x13_1 ∧ Aside0 (geyserref03_Symbol.l0 kq l0 a1 l2 x7_1 (l0.length : Int) x13_1 = some r) ∧ Aside0 (kq ≤ k) ∧ Aside0 (Kd.R (Kd.int .u8) 5 w' w.heap.size (fun _ => True) v7 x7_1) ∧ Aside0 (Below w.heap.size w w'))
      case atStart => exact ⟨(y116), (0), (by first | rfl | (simp; done) | (simp [*]; done)), H', ⟨Nat.le_refl _⟩, ⟨by (with_reducible repeat (first | apply Kd.R_alloc | apply Kd.R_drewN | apply Kd.R_drew)); exact HO118.out⟩, ⟨by repeat (first | (with_reducible first | exact HB.out | apply below_alloc | apply pw_below_drewN | apply below_drew1) | exact HB.out)⟩⟩
      case round =>
        clear H'
        try clear c1
        try clear c2
        try clear p2
        try clear c4
        try clear c4b0
        try clear c4b1
        try clear c5
        try clear c5b0
        try clear c5b1
        obtain ⟨x7_1, x13_1, rfl, HA, HK1, HO_7, HB⟩ := hrel
        cases gk with
        | zero => exact absurd HA.out (by simp [geyserref03_Symbol.l0])
        | succ k1 =>
          have H := HA.out
          clear HA
          simp only [geyserref03_Symbol.l0] at H
          by_cases c8 : x13_1 < (l0.length : Int)
          · rw [if_pos c8] at H
            have c8b0 : decide (x13_1 < (l0.length : Int)) = true := decide_eq_true c8
            clear c8
            by_cases c9 : 0 ≤ x13_1
            · rw [if_pos c9] at H
              have c9b0 : decide (0 ≤ x13_1) = true := decide_eq_true c9
              clear c9
              by_cases c10 : x13_1 < (l0.length : Int)
              · rw [if_pos c10] at H
                have c10b0 : decide (x13_1 < (l0.length : Int)) = true := decide_eq_true c10
                clear c10
                replace H := Option.bind_eq_some_iff.mp H
                obtain ⟨t120, A110, H⟩ := H
                replace H : (if x13_1 < (l2.length : Int) then ((geyserref03_Plus.f k1 x7_1 t120 (rd l2 x13_1)).bind fun t124 => (geyserref03_Symbol.l0 k1 l0 a1 l2 t124 (l0.length : Int) (wrap64 (x13_1 + 1)))) else (none)) = some r := H
                have A11 := Aside0.mk A110
                clear A110
                by_cases c12 : x13_1 < (l2.length : Int)
                · rw [if_pos c12] at H
                  have c12b0 : decide (x13_1 < (l2.length : Int)) = true := decide_eq_true c12
                  clear c12
                  replace H := Option.bind_eq_some_iff.mp H
                  obtain ⟨t124, A130, H⟩ := H
                  replace H : (geyserref03_Symbol.l0 k1 l0 a1 l2 t124 (l0.length : Int) (wrap64 (x13_1 + 1))) = some r := H
                  have A13 := Aside0.mk A130
                  clear A130
                  have H' := Aside0.mk H
                  clear H
                  try go_wp2
                  have n0_ := Aside0.mk (Kd.R_drew HO_7.out)
                  have n1_ := Aside0.mk (below_drew1 HB.out)
                  clear HO_7
                  clear HB
                  have HO_7 := n0_
                  have HB := n1_
                  clear n0_ n1_
                  have p119 : 0 ≤ (x13_1 : Int) := of_decide_eq_true (by first | (with_reducible assumption) | assumption)
                  have q119 : x13_1 < (l0.length : Int) := of_decide_eq_true (by first | (with_reducible assumption) | assumption)
                  obtain ⟨ad119, A119_0, c119_0, e119, hx119_0, hl119_0, hi119_0⟩ := at_L1 HR0.out x13_1 p119 q119
                  have hw119_0 := hx119_0
                  cases e119
                  (first | (replace hx119_0 := (HB.out.cell (World.block_lt_of_cell? w _ hx119_0)).trans hx119_0) | skip)
                  have HR119_0 := Aside0.mk hi119_0
                  have HC119_0 := Aside0.mk hl119_0
                  clear hi119_0 hl119_0
                  replace p119 := eq_true p119
                  replace q119 := eq_true q119
                  have p123 : 0 ≤ (x13_1 : Int) := of_decide_eq_true (by first | (with_reducible assumption) | assumption)
                  have q123 : x13_1 < (l2.length : Int) := of_decide_eq_true (by first | (with_reducible assumption) | assumption)
                  obtain ⟨ad123, e123, hx123_0⟩ := Kd.at_int HR2.out x13_1 p123 q123
                  have hw123_0 := hx123_0
                  cases e123
                  (first | (replace hx123_0 := (HB.out.cell (World.block_lt_of_cell? w _ hx123_0)).trans hx123_0) | skip)
                  replace p123 := eq_true p123
                  replace q123 := eq_true q123
                  refine start_ (n := 13) (S := fun w' => w'.cell? (ad119.add (x13_1).toNat) = some (.slice A119_0 (rd_L1 l0 x13_1).length c119_0) ∧ w'.cell? (ad123.add (x13_1).toNat) = some (.int .u8 (rd l2 x13_1))) (ds := []) #[false, false, false, false, false, false, false, false, false, false, false, false, false] (by kernel_rfl) rfl rfl ⟨((HB.out.cell (World.block_lt_of_cell? w _ hw119_0)).trans hw119_0), ((HB.out.cell (World.block_lt_of_cell? w _ hw123_0)).trans hw123_0)⟩ (fun hHeld => ?_); refine with_tabW geyserref03_Symbol.tab5 geyserref03_Symbol.bits5 (fun HT_ HW_ => ?_)
                  generalize wr.drew = w14 at HO_7 HB HR119_0 hx119_0 hx123_0 hHeld ⊢
                  refine pure_ (i := 0) (N := some 16) (v := ?_) (a' := ?_) #[true, false, false, false, false, false, false, false, false, false, false, false, false] rfl rfl (any_of HT_.out (by kernel_rfl)) (fun _ _ _ h => h) (Or.inl ⟨by rfl, ?_⟩) ?_ ?_
                  rotate_left
                  · intro w'
                    go_simp
                    with_reducible rfl
                  rotate_left
                  · simp only [Act.put, List.setIfInBounds_toArray, List.set_cons_zero, List.set_cons_succ, i64_w, i32_w]
                    rfl
                  refine pure_ (i := 1) (N := some 17) (v := ?_) (a' := ?_) #[true, true, false, false, false, false, false, false, false, false, false, false, false] rfl rfl (any_of HT_.out (by kernel_rfl)) (fun _ _ _ h => h) (Or.inl ⟨by rfl, ?_⟩) ?_ ?_
                  rotate_left
                  · intro w'
                    go_simp
                    with_reducible rfl
                  rotate_left
                  · simp only [Act.put, List.setIfInBounds_toArray, List.set_cons_zero, List.set_cons_succ, i64_w, i32_w]
                    rfl
                  refine pure_ (i := 2) (N := some 18) (v := ?_) (a' := ?_) #[true, true, true, false, false, false, false, false, false, false, false, false, false] rfl rfl (any_of HT_.out (by kernel_rfl)) (fun _ _ _ h => h) (Or.inl ⟨by rfl, ?_⟩) ?_ ?_
                  rotate_left
                  · intro w'
                    go_simp
                    with_reducible rfl
                  rotate_left
                  · simp only [Act.put, List.setIfInBounds_toArray, List.set_cons_zero, List.set_cons_succ, i64_w, i32_w]
                    rfl
                  refine pure_ (i := 3) (N := some 19) (v := ?_) (a' := ?_) #[true, true, true, true, false, false, false, false, false, false, false, false, false] rfl rfl (any_of HT_.out (by kernel_rfl)) (fun _ _ _ h => h) (Or.inl ⟨by rfl, ?_⟩) ?_ ?_
                  rotate_left
                  · intro w'
                    go_simp
                    with_reducible rfl
                  rotate_left
                  · simp only [Act.put, List.setIfInBounds_toArray, List.set_cons_zero, List.set_cons_succ, i64_w, i32_w]
                    rfl
                  refine pure_ (i := 5) (N := some 21) (v := ?_) (a' := ?_) #[true, true, true, true, false, true, false, false, false, false, false, false, false] rfl rfl (any_of HT_.out (by kernel_rfl)) (fun _ _ _ h => h) (Or.inl ⟨by rfl, ?_⟩) ?_ ?_
                  rotate_left
                  · intro w'
                    go_simp
                    with_reducible rfl
                  rotate_left
                  · simp only [Act.put, List.setIfInBounds_toArray, List.set_cons_zero, List.set_cons_succ, i64_w, i32_w]
                    rfl
                  refine pure_ (i := 7) (N := some 23) (v := ?_) (a' := ?_) #[true, true, true, true, false, true, false, true, false, false, false, false, false] rfl rfl (any_of HT_.out (by kernel_rfl)) (fun _ _ _ h => h) (Or.inl ⟨by rfl, ?_⟩) ?_ ?_
                  rotate_left
                  · intro w'
                    go_simp
                    with_reducible rfl
                  rotate_left
                  · simp only [Act.put, List.setIfInBounds_toArray, List.set_cons_zero, List.set_cons_succ, i64_w, i32_w]
                    rfl
                  refine pure_ (i := 8) (N := some 24) (v := ?_) (a' := ?_) #[true, true, true, true, false, true, false, true, true, false, false, false, false] rfl rfl (any_of HT_.out (by kernel_rfl)) (fun _ _ _ h => h) (Or.inl ⟨by rfl, ?_⟩) ?_ ?_
                  rotate_left
                  · intro w'
                    go_simp
                    with_reducible rfl
                  rotate_left
                  · simp only [Act.put, List.setIfInBounds_toArray, List.set_cons_zero, List.set_cons_succ, i64_w, i32_w]
                    rfl
                  refine pure_ (i := 9) (N := some 25) (v := ?_) (a' := ?_) #[true, true, true, true, false, true, false, true, true, true, false, false, false] rfl rfl (any_of HT_.out (by kernel_rfl)) (fun _ _ _ h => h) (Or.inl ⟨by rfl, ?_⟩) ?_ ?_
                  rotate_left
                  · intro w'
                    go_simp
                    with_reducible rfl
                  rotate_left
                  · simp only [Act.put, List.setIfInBounds_toArray, List.set_cons_zero, List.set_cons_succ, i64_w, i32_w]
                    rfl
                  refine take_ (i := 4) (N := some 20) (v := ?_) (a' := ?_) #[true, true, true, true, true, true, false, true, true, true, false, false, false] rfl rfl (take_ofW HT_.out HW_.out (by kernel_rfl)) (fun _ _ _ h => h) (Or.inl ⟨by rfl, ?_⟩) hHeld ?_ ?_
                  rotate_left
                  · rintro w' ⟨s0, s1⟩
                    go_simp
                    with_reducible rfl
                  rotate_left
                  · simp only [Act.put, List.setIfInBounds_toArray, List.set_cons_zero, List.set_cons_succ, i64_w, i32_w]
                    rfl
                  refine take_ (i := 10) (N := some 26) (v := ?_) (a' := ?_) #[true, true, true, true, true, true, false, true, true, true, true, false, false] rfl rfl (take_ofW HT_.out HW_.out (by kernel_rfl)) (fun _ _ _ h => h) (Or.inl ⟨by rfl, ?_⟩) hHeld ?_ ?_
                  rotate_left
                  · rintro w' ⟨s0, s1⟩
                    go_simp
                    with_reducible rfl
                  rotate_left
                  · simp only [Act.put, List.setIfInBounds_toArray, List.set_cons_zero, List.set_cons_succ, i64_w, i32_w]
                    rfl
                  refine one_ (i := 6) (N := some 22) #[true, true, true, true, true, true, true, true, true, true, true, false, false] rfl rfl (one_of HT_.out (by kernel_rfl)) (by decide) (fun K hK => ?_)
                  refine goes_ Tryd.func16 (by kernel_rfl) rfl #[.slice A119_0 (rd_L1 l0 x13_1).length c119_0, .int .i64 a1] (by rfl) rfl rfl (by (try simp only [List.map_toArray, List.map_cons, List.map_nil]); first | done | rfl | (simp only [List.length_drop, List.length_take]; rfl)) ?_
                  with_reducible refine (geyserref03_Fill.calls _ _ (rd_L1 l0 x13_1) a1 t120 _ ?side1 ?side2 A11.out).mono ?_
                  (case side1 => repeat (first | exact (Kd.C_below HR119_0.out HB.out) | (with_reducible refine Kd.C_alloc ?_ _) | (with_reducible refine Kd.C_drewN ?_ _) | (with_reducible refine Kd.C_drew ?_)))
                  (case side2 => exact HC119_0.out)
                  rintro e w15 ⟨v121, rfl, ho0, hb⟩
                  refine ⟨_, rfl, ?_⟩
                  have n0_ := Aside0.mk (Kd.R_elder' (by (with_reducible repeat (first | apply Kd.R_alloc | apply Kd.R_drewN | apply Kd.R_drew)); exact HO_7.out) (Kd.R_base ho0) hb)
                  have n1_ := Aside0.mk (Kd.R_lower (Kd.R_new' ho0 (Kd.R_lt (by (with_reducible repeat (first | apply Kd.R_alloc | apply Kd.R_drewN | apply Kd.R_drew)); exact HO_7.out))) (below_size (by repeat (first | (with_reducible first | exact HB.out | apply below_alloc | apply pw_below_drewN | apply below_drew1) | exact HB.out))))
                  have n2_ := Aside0.mk (below_step (by repeat (first | (with_reducible first | exact HB.out | apply below_alloc | apply pw_below_drewN | apply below_drew1) | exact HB.out)) hb)
                  clear HO_7
                  clear HB
                  have HO_7 := n0_
                  have HO122 := n1_
                  have HB := n2_
                  clear n0_ n1_ n2_
                  (try clear hb)
                  (try clear hb2)
                  (try clear hk)
                  (try clear hi)
                  (try clear ho0)
                  obtain ⟨Ao16, co16, eo16⟩ := Kd.R_slice HO_7.out
                  (first | subst eo16 | (injection eo16 with f1_ f2_ f3_; have f4_ := f1_.symm; have f5_ := f3_.symm; clear f1_ f2_ f3_; subst f4_; subst f5_))
                  obtain ⟨Ao17, co17, eo17⟩ := Kd.R_slice HO122.out
                  (first | subst eo17 | (injection eo17 with f1_ f2_ f3_; have f4_ := f1_.symm; have f5_ := f3_.symm; clear f1_ f2_ f3_; subst f4_; subst f5_))
                  refine hK.out _ _ ⟨((HB.out.cell (World.block_lt_of_cell? w _ hw119_0)).trans hw119_0), ((HB.out.cell (World.block_lt_of_cell? w _ hw123_0)).trans hw123_0)⟩ (fun hHeld => ?_)
                  clear hK K
                  refine norm_ (a' := ?_) ?_ ?_
                  rotate_left
                  · show Act.put _ (some 22) _ = _
                    simp only [Act.put, List.setIfInBounds_toArray, List.set_cons_zero, List.set_cons_succ, i64_w, i32_w]
                    rfl
                  refine one_ (i := 11) (N := some 27) #[true, true, true, true, true, true, true, true, true, true, true, true, false] rfl rfl (one_of HT_.out (by kernel_rfl)) (by decide) (fun K hK => ?_)
                  refine goes_ Tryd.func9 (by kernel_rfl) rfl #[.slice Ao16 x7_1.length co16, .slice Ao17 t120.length co17, .int .u8 (rd l2 x13_1)] (by rfl) rfl rfl (by (try simp only [List.map_toArray, List.map_cons, List.map_nil]); first | done | rfl | (simp only [List.length_drop, List.length_take]; rfl)) ?_
                  with_reducible refine (geyserref03_Plus.calls k1 _ _ x7_1 _ _ t120 (rd l2 x13_1) t124 _ ?side1 ?side2 ?side3 ?side4 A13.out).mono ?_
                  (case side1 => repeat (first | exact (Kd.R_reads' HO_7.out).2.2 | (with_reducible refine Kd.C_alloc ?_ _) | (with_reducible refine Kd.C_drewN ?_ _) | (with_reducible refine Kd.C_drew ?_)))
                  (case side2 => exact (Kd.R_reads' HO_7.out).2.1)
                  (case side3 => repeat (first | exact (Kd.R_reads' HO122.out).2.2 | (with_reducible refine Kd.C_alloc ?_ _) | (with_reducible refine Kd.C_drewN ?_ _) | (with_reducible refine Kd.C_drew ?_)))
                  (case side4 => exact (Kd.R_reads' HO122.out).2.1)
                  rintro e w18 ⟨v125, rfl, ho0, hb⟩
                  refine ⟨_, rfl, ?_⟩
                  have n0_ := Aside0.mk (Kd.R_elder' (by (with_reducible repeat (first | apply Kd.R_alloc | apply Kd.R_drewN | apply Kd.R_drew)); exact HO_7.out) (Kd.R_base ho0) hb)
                  have n1_ := Aside0.mk (Kd.R_elder' (by (with_reducible repeat (first | apply Kd.R_alloc | apply Kd.R_drewN | apply Kd.R_drew)); exact HO122.out) (Kd.R_base ho0) hb)
                  have n2_ := Aside0.mk (Kd.R_lower (Kd.R_new' (Kd.R_new' ho0 (Kd.R_lt (by (with_reducible repeat (first | apply Kd.R_alloc | apply Kd.R_drewN | apply Kd.R_drew)); exact HO_7.out))) (Kd.R_lt (by (with_reducible repeat (first | apply Kd.R_alloc | apply Kd.R_drewN | apply Kd.R_drew)); exact HO122.out))) (below_size (by repeat (first | (with_reducible first | exact HB.out | apply below_alloc | apply pw_below_drewN | apply below_drew1) | exact HB.out))))
                  have n3_ := Aside0.mk (below_step (by repeat (first | (with_reducible first | exact HB.out | apply below_alloc | apply pw_below_drewN | apply below_drew1) | exact HB.out)) hb)
                  clear HO_7
                  clear HO122
                  clear HB
                  have HO_7 := n0_
                  have HO122 := n1_
                  have HO126 := n2_
                  have HB := n3_
                  clear n0_ n1_ n2_ n3_
                  (try clear hb)
                  (try clear hb2)
                  (try clear hk)
                  (try clear hi)
                  (try clear ho0)
                  refine hK.out _ _ ⟨((HB.out.cell (World.block_lt_of_cell? w _ hw119_0)).trans hw119_0), ((HB.out.cell (World.block_lt_of_cell? w _ hw123_0)).trans hw123_0)⟩ (fun hHeld => ?_)
                  clear hK K
                  refine norm_ (a' := ?_) ?_ ?_
                  rotate_left
                  · show Act.put _ (some 27) _ = _
                    simp only [Act.put, List.setIfInBounds_toArray, List.set_cons_zero, List.set_cons_succ, i64_w, i32_w]
                    rfl
                  refine pure_ (i := 12) (N := some 7) (v := ?_) (a' := ?_) #[true, true, true, true, true, true, true, true, true, true, true, true, true] rfl rfl (any_of HT_.out (by kernel_rfl)) (fun _ _ _ h => h) (Or.inl ⟨by rfl, ?_⟩) ?_ ?_
                  rotate_left
                  · intro w'
                    go_simp
                    with_reducible rfl
                  rotate_left
                  · simp only [Act.put, List.setIfInBounds_toArray, List.set_cons_zero, List.set_cons_succ, i64_w, i32_w]
                    rfl
                  refine done_ (done_of HT_.out (by kernel_rfl)) ?_
                  try go_wp2
                  go_roundg k1
                  case measure => have := HK1.out; omega
                  case rel => exact ⟨(t124), (wrap64 (x13_1 + 1)), (by first | rfl | (simp; done) | (simp [*]; done)), H', ⟨by have := HK1.out; omega⟩, ⟨by (with_reducible repeat (first | apply Kd.R_alloc | apply Kd.R_drewN | apply Kd.R_drew)); exact Kd.R_mono HO126.out (fun _ hk => trivial)⟩, ⟨by repeat (first | (with_reducible first | exact HB.out | apply below_alloc | apply pw_below_drewN | apply below_drew1) | exact HB.out)⟩⟩
                · rw [if_neg c12] at H
                  exact absurd H (by simp)
              · rw [if_neg c10] at H
                exact absurd H (by simp)
            · rw [if_neg c9] at H
              exact absurd H (by simp)
          · rw [if_neg c8] at H
            have c8b0 : decide (x13_1 < (l0.length : Int)) = false := decide_eq_false c8
            clear c8
            obtain rfl := Option.some.inj H
            go_wp2
            go_ret
            exact ⟨_, by first | rfl | (simp [errW_none, errW_some] <;> rfl) | (simp [*, errW_none, errW_some] <;> rfl), by (with_reducible repeat (first | apply Kd.R_alloc | apply Kd.R_drewN | apply Kd.R_drew)); exact HO_7.out, by repeat (first | (with_reducible first | exact HB.out | apply below_alloc | apply pw_below_drewN | apply below_drew1) | exact HB.out)⟩
    · rw [if_neg c5] at H
      exact absurd H (by simp)
  · rw [if_neg c4] at H
    exact absurd H (by simp)

-- given: function 18 (dense_Solve)

/-! ### geyserref03_Rows: function 28 -/
mutual
def geyserref03_Rows.l0 : Nat → List (List Int) → Int → Int → Int → Option ((List (List Int)) × Int)
  | 0, _, _, _, _ => none
  | k + 1, x0, x4, x9, x10 => if x10 < x9 then (if 0 ≤ x10 then (if x10 < (x0.length : Int) then (geyserref03_Rows.l0 k x0 (mx x4 ((rd_L1 x0 x10).length : Int)) x9 (wrap64 (x10 + 1))) else (none)) else (none)) else (geyserref03_Rows.l1 k x0 x4 ([] : List (List Int)) (x0.length : Int) 0)
def geyserref03_Rows.l1 : Nat → List (List Int) → Int → List (List Int) → Int → Int → Option ((List (List Int)) × Int)
  | 0, _, _, _, _, _ => none
  | k + 1, x0, x4, x6, x22, x23 => if x23 < x22 then (if 0 ≤ x23 then (if x23 < (x0.length : Int) then ((geyserref03_Fill.f (rd_L1 x0 x23) x4).bind fun t129 => (if x6.length < 5864062014805 then (geyserref03_Rows.l1 k x0 x4 (x6 ++ [t129]) x22 (wrap64 (x23 + 1))) else (none))) else (none)) else (none)) else (some (x6, x4))
end
def geyserref03_Rows.f (k : Nat) (l0 : List (List Int)) : Option ((List (List Int)) × Int) := geyserref03_Rows.l0 k l0 0 (l0.length : Int) 0
theorem geyserref03_Rows.mono_l : ∀ k, (∀ y0 y1 y2 y3, LeO (geyserref03_Rows.l0 k y0 y1 y2 y3) (geyserref03_Rows.l0 (k + 1) y0 y1 y2 y3)) ∧ (∀ y0 y1 y2 y3 y4, LeO (geyserref03_Rows.l1 k y0 y1 y2 y3 y4) (geyserref03_Rows.l1 (k + 1) y0 y1 y2 y3 y4))
  | 0 => ⟨fun _ _ _ _ r h => by simp [geyserref03_Rows.l0] at h, fun _ _ _ _ _ r h => by simp [geyserref03_Rows.l1] at h⟩
  | k + 1 => by
    obtain ⟨ih0, ih1⟩ := geyserref03_Rows.mono_l k
    refine ⟨?_, ?_⟩
    · intro y0 y1 y2 y3
      unfold geyserref03_Rows.l0
      repeat' first
      | (with_reducible exact ih0 _ _ _ _)
      | (with_reducible exact ih1 _ _ _ _ _)
      | (with_reducible exact LeO.refl _)
      | (with_reducible exact LeO.none _)
      | (with_reducible refine LeO.ite ?_ ?_)
      | (with_reducible refine LeO.bind ?_ (fun _ => ?_))
      | exact ih0 _ _ _ _
      | exact ih1 _ _ _ _ _
      | exact LeO.none _
      | refine LeO.ite ?_ ?_
      | refine LeO.bind ?_ (fun _ => ?_)
    · intro y0 y1 y2 y3 y4
      unfold geyserref03_Rows.l1
      repeat' first
      | (with_reducible exact ih0 _ _ _ _)
      | (with_reducible exact ih1 _ _ _ _ _)
      | (with_reducible exact LeO.refl _)
      | (with_reducible exact LeO.none _)
      | (with_reducible refine LeO.ite ?_ ?_)
      | (with_reducible refine LeO.bind ?_ (fun _ => ?_))
      | exact ih0 _ _ _ _
      | exact ih1 _ _ _ _ _
      | exact LeO.none _
      | refine LeO.ite ?_ ?_
      | refine LeO.bind ?_ (fun _ => ?_)
theorem geyserref03_Rows.mono : ∀ a0 k, LeO (geyserref03_Rows.f k a0) (geyserref03_Rows.f (k + 1) a0) := by
  intro a0 k
  obtain ⟨ih0, ih1⟩ := geyserref03_Rows.mono_l k
  unfold geyserref03_Rows.f
  repeat' first
      | (with_reducible exact ih0 _ _ _ _)
      | (with_reducible exact ih1 _ _ _ _ _)
      | (with_reducible exact LeO.refl _)
      | (with_reducible exact LeO.none _)
      | (with_reducible refine LeO.ite ?_ ?_)
      | (with_reducible refine LeO.bind ?_ (fun _ => ?_))
      | exact ih0 _ _ _ _
      | exact ih1 _ _ _ _ _
      | exact LeO.none _
      | refine LeO.ite ?_ ?_
      | refine LeO.bind ?_ (fun _ => ?_)
set_option maxHeartbeats 8000000 in
set_option maxRecDepth 100000 in
theorem geyserref03_Rows.calls (k : Nat) (A0 : Option Addr) (c0 : Nat) (l0 : List (List Int)) (r1 : List (List Int)) (r2 : Int) (w : World) (hr0 : Kd.C (Kd.slice 5 (Kd.int .u8)) w A0 l0.length l0) (hc0 : l0.length ≤ c0) (h : geyserref03_Rows.f k l0 = some (r1, r2)) :
    Calls Tryd.prog 28 #[.slice A0 l0.length c0] w fun e w' => ∃ v0_ : Value, e = .returned (.tuple #[v0_, .int .i64 r2]) ∧ Kd.S (Kd.slice 5 (Kd.int .u8)) 22 w' w.heap.size (fun _ => True) v0_ r1 ∧ Below w.heap.size w w' := by
  have HR0 := Aside0.mk hr0
  have HC0 := Aside0.mk hc0
  clear hr0 hc0
  have HB := Aside0.mk (Below.refl w.heap.size w)
  have H : (geyserref03_Rows.l0 k l0 0 (l0.length : Int) 0) = some (r1, r2) := h
  clear h
  have H' := Aside0.mk H
  clear H
  go_enter Tryd.func28, Tryd.ntmps28
  go_wp2
  go_loopg [4, 10] k (fun kq v4 v10 w' => ∃ (x4_1 : Int) (x10_1 : Int), v4 = .int .i64 x4_1 ∧ v10 = .int .i64 x10_1 ∧ Aside0 (geyserref03_Rows.l0 kq l0 x4_1 (l0.length : Int) x10_1 = some (r1, r2)) ∧ Aside0 (kq ≤ k) ∧ Aside0 (Below w.heap.size w w'))
  case atStart => exact ⟨(0), (0), (by first | rfl | (simp; done) | (simp [*]; done)), (by first | rfl | (simp; done) | (simp [*]; done)), H', ⟨Nat.le_refl _⟩, ⟨by repeat (first | (with_reducible first | exact HB.out | apply below_alloc | apply pw_below_drewN | apply below_drew1) | exact HB.out)⟩⟩
  case round =>
    clear H'
    obtain ⟨x4_1, x10_1, rfl, rfl, HA, HK1, HB⟩ := hrel
    cases gk with
    | zero => exact absurd HA.out (by simp [geyserref03_Rows.l0])
    | succ k1 =>
      have H := HA.out
      clear HA
      simp only [geyserref03_Rows.l0] at H
      by_cases c2 : x10_1 < (l0.length : Int)
      · rw [if_pos c2] at H
        have c2b0 : decide (x10_1 < (l0.length : Int)) = true := decide_eq_true c2
        clear c2
        by_cases c3 : 0 ≤ x10_1
        · rw [if_pos c3] at H
          have c3b0 : decide (0 ≤ x10_1) = true := decide_eq_true c3
          clear c3
          by_cases c4 : x10_1 < (l0.length : Int)
          · rw [if_pos c4] at H
            have c4b0 : decide (x10_1 < (l0.length : Int)) = true := decide_eq_true c4
            clear c4
            obtain ⟨ji5, hji5⟩ : ∃ j_ : Int, (mx x4_1 ((rd_L1 l0 x10_1).length : Int)) = j_ := ⟨_, rfl⟩
            replace H : (geyserref03_Rows.l0 k1 l0 ji5 (l0.length : Int) (wrap64 (x10_1 + 1))) = some (r1, r2) := by first | (rw [hji5] at H; exact H) | (simp only [hji5] at H ⊢; exact H)
            have hji5_ : (if x4_1 < ((rd_L1 l0 x10_1).length : Int) then ((rd_L1 l0 x10_1).length : Int) else x4_1) = ji5 := hji5
            have H' := Aside0.mk H
            clear H
            have p127 : 0 ≤ (x10_1 : Int) := of_decide_eq_true (by first | (with_reducible assumption) | assumption)
            have q127 : x10_1 < (l0.length : Int) := of_decide_eq_true (by first | (with_reducible assumption) | assumption)
            obtain ⟨ad127, A127_0, c127_0, e127, hx127_0, hl127_0, hi127_0⟩ := at_L1 HR0.out x10_1 p127 q127
            cases e127
            (first | (replace hx127_0 := (HB.out.cell (World.block_lt_of_cell? w _ hx127_0)).trans hx127_0) | skip)
            have HR127_0 := Aside0.mk hi127_0
            have HC127_0 := Aside0.mk hl127_0
            clear hi127_0 hl127_0
            replace p127 := eq_true p127
            replace q127 := eq_true q127
            go_wp2
            go_roundg k1
            case measure => have := HK1.out; omega
            case rel => exact ⟨(ji5), (wrap64 (x10_1 + 1)), (by first | rfl | (simp; done) | (simp only [← hji5] <;> (first | rfl | simp)) | (simp [*]; done)), (by first | rfl | (simp; done) | (simp [*]; done)), H', ⟨by have := HK1.out; omega⟩, ⟨by repeat (first | (with_reducible first | exact HB.out | apply below_alloc | apply pw_below_drewN | apply below_drew1) | exact HB.out)⟩⟩
          · rw [if_neg c4] at H
            exact absurd H (by simp)
        · rw [if_neg c3] at H
          exact absurd H (by simp)
      · rw [if_neg c2] at H
        have c2b0 : decide (x10_1 < (l0.length : Int)) = false := decide_eq_false c2
        clear c2
        have H' := Aside0.mk H
        clear H
        go_wp2
        go_loopg [6, 23] k1 (fun kq v6 v23 w' => ∃ (x6_2 : List (List Int)) (x23_2 : Int), v23 = .int .i64 x23_2 ∧ Aside0 (geyserref03_Rows.l1 kq l0 x4_1 x6_2 (l0.length : Int) x23_2 = some (r1, r2)) ∧ Aside0 (kq ≤ k1) ∧ Aside0 (Kd.S (Kd.slice 5 (Kd.int .u8)) 22 w' w.heap.size (fun _ => True) v6 x6_2) ∧ Aside0 (Below w.heap.size w w'))
        case atStart => exact ⟨(([] : List (List Int))), (0), (by first | rfl | (simp; done) | (simp [*]; done)), H', ⟨Nat.le_refl _⟩, ⟨by first | exact Kd.S_nil _ _ _ _ _ | exact Kd.N_nil _ _ _ _ _ | exact Kd.V_nil _ _ _ _ _ | exact Kd.Q_nil _ _ _ _ _ | exact Kd.R_nil _ _ _ _ _⟩, ⟨by repeat (first | (with_reducible first | exact HB.out | apply below_alloc | apply pw_below_drewN | apply below_drew1) | exact HB.out)⟩⟩
        case round =>
          clear H'
          try clear c1
          try clear p1
          try clear q1
          try clear hx1
          try clear c2
          try clear c2b0
          try clear p2
          try clear c3
          try clear c3b0
          try clear c4
          try clear c4b0
          try clear hx127_0
          try clear p127
          try clear q127
          obtain ⟨x6_2, x23_2, rfl, HA, HK2, HO_6, HB⟩ := hrel
          cases gk with
          | zero => exact absurd HA.out (by simp [geyserref03_Rows.l1])
          | succ k2 =>
            have H := HA.out
            clear HA
            simp only [geyserref03_Rows.l1] at H
            by_cases c6 : x23_2 < (l0.length : Int)
            · rw [if_pos c6] at H
              have c6b0 : decide (x23_2 < (l0.length : Int)) = true := decide_eq_true c6
              clear c6
              by_cases c7 : 0 ≤ x23_2
              · rw [if_pos c7] at H
                have c7b0 : decide (0 ≤ x23_2) = true := decide_eq_true c7
                clear c7
                by_cases c8 : x23_2 < (l0.length : Int)
                · rw [if_pos c8] at H
                  have c8b0 : decide (x23_2 < (l0.length : Int)) = true := decide_eq_true c8
                  clear c8
                  replace H := Option.bind_eq_some_iff.mp H
                  obtain ⟨t129, A90, H⟩ := H
                  replace H : (if x6_2.length < 5864062014805 then (geyserref03_Rows.l1 k2 l0 x4_1 (x6_2 ++ [t129]) (l0.length : Int) (wrap64 (x23_2 + 1))) else (none)) = some (r1, r2) := H
                  have A9 := Aside0.mk A90
                  clear A90
                  by_cases c10 : x6_2.length < 5864062014805
                  · rw [if_pos c10] at H
                    have LMc10 := Aside0.mk c10
                    clear c10
                    obtain ⟨y132, hy132⟩ : ∃ y_ : List (List Int), y_ = (x6_2 ++ [t129]) := ⟨_, rfl⟩
                    replace H : (geyserref03_Rows.l1 k2 l0 x4_1 y132 (l0.length : Int) (wrap64 (x23_2 + 1))) = some (r1, r2) := by first | (rw [hy132]; with_reducible exact H) | (have H2_ := (Option.bind_some _ _).symm.trans H; rw [hy132]; with_reducible exact H2_) | (have H2_ := (Option.bind_some _ _).symm.trans H; with_reducible exact H2_) | with_reducible exact H | (rw [hy132]; exact H) | exact H
                    have Ny132 := Aside0.mk hy132
                    clear hy132
                    have H' := Aside0.mk H
                    clear H
                    have p128 : 0 ≤ (x23_2 : Int) := of_decide_eq_true (by first | (with_reducible assumption) | assumption)
                    have q128 : x23_2 < (l0.length : Int) := of_decide_eq_true (by first | (with_reducible assumption) | assumption)
                    obtain ⟨ad128, A128_0, c128_0, e128, hx128_0, hl128_0, hi128_0⟩ := at_L1 HR0.out x23_2 p128 q128
                    cases e128
                    (first | (replace hx128_0 := (HB.out.cell (World.block_lt_of_cell? w _ hx128_0)).trans hx128_0) | skip)
                    have HR128_0 := Aside0.mk hi128_0
                    have HC128_0 := Aside0.mk hl128_0
                    clear hi128_0 hl128_0
                    replace p128 := eq_true p128
                    replace q128 := eq_true q128
                    go_wp2_with (first | ((with_reducible refine gate_callee (f := 16) rfl ?_); refine goesL_ (some 32) rfl rfl Tryd.func16 (by kernel_rfl) rfl #[.slice A128_0 (rd_L1 l0 x23_2).length c128_0, .int .i64 x4_1] rfl (by (try simp only [List.map_toArray, List.map_cons, List.map_nil]); first | done | rfl | (simp only [List.length_drop, List.length_take]; rfl)) ?_; (with_reducible refine (geyserref03_Fill.calls _ _ (rd_L1 l0 x23_2) x4_1 t129 _ ?side1 ?side2 A9.out).mono ?_); (case side1 => repeat (first | exact (Kd.C_below HR128_0.out HB.out) | (with_reducible refine Kd.C_alloc ?_ _) | (with_reducible refine Kd.C_drewN ?_ _) | (with_reducible refine Kd.C_drew ?_))); (case side2 => exact HC128_0.out); rintro e w11 ⟨v130, rfl, ho0, hb⟩; refine ⟨_, rfl, ?_⟩; have n0_ := Aside0.mk (Kd.S_elder' (by (with_reducible repeat (first | apply Kd.S_alloc | apply Kd.S_drewN | apply Kd.S_drew)); exact HO_6.out) (Kd.R_base ho0) hb); have n1_ := Aside0.mk (Kd.R_lower ho0 (below_size (by repeat (first | (with_reducible first | exact HB.out | apply below_alloc | apply pw_below_drewN | apply below_drew1) | exact HB.out)))); have n2_ := Aside0.mk (below_step (by repeat (first | (with_reducible first | exact HB.out | apply below_alloc | apply pw_below_drewN | apply below_drew1) | exact HB.out)) hb); clear HO_6; clear HB; have HO_6 := n0_; have HO131 := n1_; have HB := n2_; clear n0_ n1_ n2_; (try clear hb); (try clear hb2); (try clear hk); (try clear hi); (try clear ho0); obtain ⟨Ao13, co13, eo13⟩ := Kd.R_slice HO131.out; subst eo13) | ((with_reducible refine gate_builtin (b := .append) (xs := #[.tmp 26, .tmp 33]) rfl ?_); at_builtin; refine Kd.S_append (Kd.slice 5 (Kd.int .u8)) (w0 := w) w.heap.size rfl (.tmp 26) (.tmp 33) 35 22 (.slice none 0 0) 24 rfl Tryd.underlying35 info22 rfl (by decide) (by omega) u6 x6_2 t129 [.slice Ao13 t129.length co13] (fun _ => True) (fun k_ => some k_ = (.slice Ao13 t129.length co13 : Value).ownBlock) rfl rfl ?aP (fun k_ hk_ => ((Kd.R_mono (ok' := fun k_ => ((fun _ => True)) k_ ∧ some k_ ≠ (u6 : Value).ownBlock) (Kd.R_apart' (HO131.out) (Kd.S_typed HO_6.out) (by decide)) (fun k_ hk => ⟨trivial, hk.2⟩))).1 k_ hk_.symm) ?aF ?aO ?aB ?aS ?aL ?_; (case aP => exact Kd.M_row (Kd.R_mono (Kd.R_tight rfl (Kd.R_mono (ok' := fun k_ => ((fun _ => True)) k_ ∧ some k_ ≠ (u6 : Value).ownBlock) (Kd.R_apart' (HO131.out) (Kd.S_typed HO_6.out) (by decide)) (fun k_ hk => ⟨trivial, hk.2⟩))) (fun _ h_ => h_))); (case aB => exact (by repeat (first | (with_reducible first | exact HB.out | apply below_alloc | apply pw_below_drewN | apply below_drew1) | exact HB.out))); (case aF => exact (fun _ _ => trivial)); (case aO => exact (by (with_reducible repeat (first | apply Kd.S_alloc | apply Kd.S_drewN | apply Kd.S_drew)); exact Kd.S_mono HO_6.out (fun k_ hk => ⟨trivial, fun e_ => hk.2 e_⟩))); (case aS => exact (below_size (by repeat (first | (with_reducible first | exact HB.out | apply below_alloc | apply pw_below_drewN | apply below_drew1) | exact HB.out)))); (case aL => have := LMc10.out; omega); intro v133 w12 ho hb hg hat; rw [← Ny132.out] at ho; have n0_ := Aside0.mk (hb); have n1_ := Aside0.mk (ho); clear HB; clear HO_6; clear HO131; have HB := n0_; have HO134 := n1_; clear n0_ n1_; clear ho hb hg hat))
                    go_roundg k2
                    case measure => have := HK1.out; have := HK2.out; omega
                    case rel => exact ⟨(y132), (wrap64 (x23_2 + 1)), (by first | rfl | (simp; done) | (simp [*]; done)), H', ⟨by have := HK1.out; have := HK2.out; omega⟩, ⟨by (with_reducible repeat (first | apply Kd.S_alloc | apply Kd.S_drewN | apply Kd.S_drew)); exact HO134.out⟩, ⟨by repeat (first | (with_reducible first | exact HB.out | apply below_alloc | apply pw_below_drewN | apply below_drew1) | exact HB.out)⟩⟩
                  · rw [if_neg c10] at H
                    exact absurd H (by simp)
                · rw [if_neg c8] at H
                  exact absurd H (by simp)
              · rw [if_neg c7] at H
                exact absurd H (by simp)
            · rw [if_neg c6] at H
              have c6b0 : decide (x23_2 < (l0.length : Int)) = false := decide_eq_false c6
              clear c6
              simp only [Option.some.injEq, Prod.mk.injEq] at H
              obtain ⟨rfl, rfl⟩ := H
              go_wp2
              go_ret2
              exact ⟨_, by first | rfl | (simp [errW_none, errW_some] <;> rfl) | (simp [*, errW_none, errW_some] <;> rfl), by (with_reducible repeat (first | apply Kd.S_alloc | apply Kd.S_drewN | apply Kd.S_drew)); exact HO_6.out, by repeat (first | (with_reducible first | exact HB.out | apply below_alloc | apply pw_below_drewN | apply below_drew1) | exact HB.out)⟩

-- given: function 29 (geyserref03_Echelon)

/-! ### geyserref03_Rank: function 19 -/
def geyserref03_Rank.f (k : Nat) (l0 : List (List Int)) : Option (Int) := (geyserref03_Rows.f k l0).bind fun bt135 => ((geyserref03_Echelon.f bt135.1 bt135.2).bind fun bt139 => (some (bt139.2.length : Int)))
theorem geyserref03_Rank.mono : ∀ a0 k, LeO (geyserref03_Rank.f k a0) (geyserref03_Rank.f (k + 1) a0) := by
  intro a0 k
  unfold geyserref03_Rank.f
  repeat' first
      | (with_reducible exact geyserref03_Rows.mono _ _)
      | (with_reducible exact LeO.refl _)
      | (with_reducible exact LeO.none _)
      | (with_reducible refine LeO.ite ?_ ?_)
      | (with_reducible refine LeO.bind ?_ (fun _ => ?_))
      | exact geyserref03_Rows.mono _ _
      | exact LeO.none _
      | refine LeO.ite ?_ ?_
      | refine LeO.bind ?_ (fun _ => ?_)
set_option maxHeartbeats 8000000 in
set_option maxRecDepth 100000 in
theorem geyserref03_Rank.calls (k : Nat) (A0 : Option Addr) (c0 : Nat) (l0 : List (List Int)) (r : Int) (w : World) (hr0 : Kd.C (Kd.slice 5 (Kd.int .u8)) w A0 l0.length l0) (hc0 : l0.length ≤ c0) (h : geyserref03_Rank.f k l0 = some r) :
    Calls Tryd.prog 19 #[.slice A0 l0.length c0] w fun e w' => e = .returned (.int .i64 r) ∧ Below w.heap.size w w' := by
  have HR0 := Aside0.mk hr0
  have HC0 := Aside0.mk hc0
  clear hr0 hc0
  have HB := Aside0.mk (Below.refl w.heap.size w)
  have H : ((geyserref03_Rows.f k l0).bind fun bt135 => ((geyserref03_Echelon.f bt135.1 bt135.2).bind fun bt139 => (some (bt139.2.length : Int)))) = some r := h
  clear h
  replace H := Option.bind_eq_some_iff.mp H
  obtain ⟨⟨t135, t136⟩, A20, H⟩ := H
  replace H : ((geyserref03_Echelon.f t135 t136).bind fun bt139 => (some (bt139.2.length : Int))) = some r := H
  have A2 := Aside0.mk A20
  clear A20
  replace H := Option.bind_eq_some_iff.mp H
  obtain ⟨⟨t139, t142⟩, A30, H⟩ := H
  replace H : (some (t142.length : Int)) = some r := H
  have A3 := Aside0.mk A30
  clear A30
  obtain rfl := Option.some.inj H
  go_enter Tryd.func19, Tryd.ntmps19
  go_wp2_with (first | ((with_reducible refine gate_callee (f := 28) rfl ?_); refine goesL_ (some 9) rfl rfl Tryd.func28 (by kernel_rfl) rfl #[.slice A0 l0.length c0] rfl (by (try simp only [List.map_toArray, List.map_cons, List.map_nil]); first | done | rfl | (simp only [List.length_drop, List.length_take]; rfl)) ?_; (with_reducible refine (geyserref03_Rows.calls k _ _ l0 t135 t136 _ ?side1 ?side2 A2.out).mono ?_); (case side1 => repeat (first | exact HR0.out | (with_reducible refine Kd.C_alloc ?_ _) | (with_reducible refine Kd.C_drewN ?_ _) | (with_reducible refine Kd.C_drew ?_))); (case side2 => exact HC0.out); rintro e w4 ⟨v137, rfl, ho0, hb⟩; refine ⟨_, rfl, ?_⟩; have n0_ := Aside0.mk (Kd.N_lower (Kd.N_mono (ok' := fun k_ => True) (Kd.S_N (Kd.S_bound ho0)) (fun k_ hk_ => trivial)) (below_size (by repeat (first | (with_reducible first | exact HB.out | apply below_alloc | apply pw_below_drewN | apply below_drew1) | exact HB.out)))); have n1_ := Aside0.mk (below_step (by repeat (first | (with_reducible first | exact HB.out | apply below_alloc | apply pw_below_drewN | apply below_drew1) | exact HB.out)) hb); clear HB; have HO138 := n0_; have HB := n1_; clear n0_ n1_; (try clear hb); (try clear hb2); (try clear hk); (try clear hi); (try clear ho0); obtain ⟨Ao5, co5, eo5⟩ := Kd.N_slice HO138.out; subst eo5) | ((with_reducible refine gate_callee (f := 29) rfl ?_); refine goesL_ (some 15) rfl rfl Tryd.func29 (by kernel_rfl) rfl #[.slice Ao5 t135.length co5, .int .i64 t136] rfl (by (try simp only [List.map_toArray, List.map_cons, List.map_nil]); first | done | rfl | (simp only [List.length_drop, List.length_take]; rfl)) ?_; (with_reducible refine (geyserref03_Echelon.calls (fun k_ => True) _ _ t135 t136 t139 t142 _ ?side1 A3.out).mono ?_); (case side1 => exact Kd.N_V (HO138.out)); rintro e w6 ⟨v140, v143, rfl, ho0, ho1, hb⟩; refine ⟨_, rfl, ?_⟩; have n0_ := Aside0.mk (Kd.N_mono (Kd.N_told (Kd.N_told (Kd.N_old (by (with_reducible repeat (first | apply Kd.N_alloc | apply Kd.N_drewN | apply Kd.N_drew)); exact HO138.out) hb) (Kd.N_base ho0)) (Kd.R_base ho1)) (fun _ h_ => h_.1)); have n1_ := Aside0.mk (Kd.N_lower (Kd.N_mono (ok' := fun k_ => some k_ ≠ (v143 : Value).ownBlock) ho0 (fun k_ hk_ => hk_.2)) (below_size (by repeat (first | (with_reducible first | exact HB.out | apply below_alloc | apply pw_below_drewN | apply below_drew1) | exact HB.out)))); have n2_ := Aside0.mk (Kd.R_lower (Kd.R_mono (ok' := fun k_ => True) ho1 (fun _ hk_ => trivial)) (below_size (by repeat (first | (with_reducible first | exact HB.out | apply below_alloc | apply pw_below_drewN | apply below_drew1) | exact HB.out)))); have n3_ := Aside0.mk (below_step (by repeat (first | (with_reducible first | exact HB.out | apply below_alloc | apply pw_below_drewN | apply below_drew1) | exact HB.out)) hb); clear HO138; clear HB; have HO138 := n0_; have HO141 := n1_; have HO144 := n2_; have HB := n3_; clear n0_ n1_ n2_ n3_; (try clear hb); (try clear hb2); (try clear hk); (try clear hi); (try clear ho0); (try clear ho1); obtain ⟨Ao7, co7, eo7⟩ := Kd.R_slice HO144.out; subst eo7))
  go_ret
  exact ⟨by first | rfl | (simp [errW_none, errW_some] <;> rfl) | (simp [*, errW_none, errW_some] <;> rfl), by repeat (first | (with_reducible first | exact HB.out | apply below_alloc | apply pw_below_drewN | apply below_drew1) | exact HB.out)⟩

end Go.Proofs.YtcmigmldecacpaaDoor.QDenseSolves
