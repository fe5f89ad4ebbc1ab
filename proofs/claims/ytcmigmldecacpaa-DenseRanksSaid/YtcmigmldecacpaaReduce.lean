/- The walk over dense.reduce. -/
import Derived.Test.YtcmigmldecacpaaDense
import Derived.Test.YtcmigmldecacpaaInv
namespace Go.Proofs.Ytcmigmldecacpaa.Reduce
open Go Go.RowKit Go.Proofs.YtcmigmldecacpaaW.PrintWords Go.Proofs.YtcmigmldecacpaaW.PrintLast Go.Proofs.YtcmigmldecacpaaW.PrintMore Go.Proofs.Ytcmigmldecacpaa.Vec Go.Proofs.Ytcmigmldecacpaa.Giv Go.Proofs.Ytcmigmldecacpaa.Dense
set_option linter.unusedSimpArgs false
set_option linter.unusedVariables false

/-! ### what it computes -/
def nz (at_ : Nat) (r : List Int) : Bool := decide (r.getD at_ 0 ≠ 0)
def firstNz (R : List (List Int)) (at_ top : Nat) : Nat := top + (R.drop top).findIdx (nz at_)
def swapL (R : List (List Int)) (i j : Nat) : List (List Int) := (R.set i (R.getD j [])).set j (R.getD i [])
def normL (R : List (List Int)) (top at_ : Nat) : List (List Int) := R.set top (scaleL (R.getD top []) (Gy.ginv ((R.getD top []).getD at_ 0).toNat))
def redStep (st : List (List Int) × List Nat) (at_ : Nat) : List (List Int) × List Nat :=
  if firstNz st.1 at_ st.2.length < st.1.length then (subL (normL (swapL st.1 st.2.length (firstNz st.1 at_ st.2.length)) st.2.length at_) st.2.length at_, st.2 ++ [at_]) else st
def redTo (rows : List (List Int)) (k : Nat) : List (List Int) × List Nat := (List.range k).foldl redStep (rows, [])
theorem redTo_zero (rows : List (List Int)) : redTo rows 0 = (rows, []) := rfl
theorem redTo_succ (rows : List (List Int)) (k : Nat) : redTo rows (k + 1) = redStep (redTo rows k) k := by
  unfold redTo
  rw [List.range_succ, List.foldl_append]
  rfl
theorem first_eq {R : List (List Int)} {at_ top i : Nat} (h1 : top ≤ i) (h2 : i ≤ R.length) (h3 : ∀ j, top ≤ j → j < i → (R.getD j []).getD at_ 0 = 0) (h4 : i < R.length → (R.getD i []).getD at_ 0 ≠ 0) : firstNz R at_ top = i := by
  obtain ⟨d, rfl⟩ : ∃ d, i = top + d := ⟨i - top, by omega⟩
  unfold firstNz
  congr 1
  have key : ∀ j (hj : j < (R.drop top).length), (R.drop top)[j] = R.getD (top + j) [] := fun j hj => by
    rw [List.getElem_drop, List.getD_eq_getElem?_getD, List.getElem?_eq_getElem (by rw [List.length_drop] at hj; omega)]
    rfl
  by_cases hd : d < (R.drop top).length
  · rw [List.findIdx_eq hd]
    refine ⟨?_, fun j hj => ?_⟩
    · rw [key d hd]
      exact decide_eq_true (h4 (by rw [List.length_drop] at hd; omega))
    · rw [key j (by omega)]
      exact decide_eq_false (fun h => h (h3 (top + j) (by omega) (by omega)))
  · have hd2 : d = (R.drop top).length := by rw [List.length_drop] at hd ⊢; omega
    rw [hd2, List.findIdx_eq_length]
    intro r hr
    obtain ⟨j, hj, rfl⟩ := List.mem_iff_getElem.1 hr
    rw [key j hj]
    exact decide_eq_false (fun h => h (h3 (top + j) (by omega) (by omega)))
theorem Slots.set {R : List (List Int)} {m i : Nat} {r : List Int} (h : Slots R m) (hl : r.length = m) (hb : By r) : Slots (R.set i r) m :=
  ⟨fun x hx => (List.mem_or_eq_of_mem_set hx).elim (h.len x) (fun e => e ▸ hl), fun x hx => (List.mem_or_eq_of_mem_set hx).elim (h.b x) (fun e => e ▸ hb)⟩
theorem getD_row (R : List (List Int)) (i : Nat) (hi : i < R.length) : R.getD i [] = R[i] := by simp [List.getD_eq_getElem?_getD, hi]
theorem swapL_length (R : List (List Int)) (i j : Nat) : (swapL R i j).length = R.length := by simp [swapL]
theorem swapL_at (R : List (List Int)) (i j : Nat) (hi : i < R.length) (hj : j < R.length) : (swapL R i j).getD i [] = R.getD j [] := by
  unfold swapL
  by_cases e : j = i
  · subst e; simp [List.getD_eq_getElem?_getD, hj]
  · simp [List.getD_eq_getElem?_getD, hi, hj, e]
theorem Slots.swap {R : List (List Int)} {m i j : Nat} (h : Slots R m) (hi : i < R.length) (hj : j < R.length) : Slots (swapL R i j) m := by
  unfold swapL
  rw [getD_row R i hi, getD_row R j hj]
  exact Slots.set (Slots.set h (h.at hj).1 (h.at hj).2) (h.at hi).1 (h.at hi).2
theorem normL_length (R : List (List Int)) (i j : Nat) : (normL R i j).length = R.length := by simp [normL]
theorem by_toNat {r : List Int} (h : By r) (i : Nat) : (r.getD i 0).toNat < 256 := by
  by_cases hi : i < r.length
  · rw [getD_at r i hi]
    have := h _ (List.getElem_mem hi)
    omega
  · rw [List.getD_eq_getElem?_getD, List.getElem?_eq_none (by omega)]
    decide
theorem Slots.norm {R : List (List Int)} {m i k : Nat} (h : Slots R m) (hi : i < R.length) : Slots (normL R i k) m := by
  unfold normL
  rw [getD_row R i hi]
  exact Slots.set h ((scaleL_length _ _).trans (h.at hi).1) (scaleL_by (h.at hi).2 (Gy.ginv_lt (by_toNat (h.at hi).2 k)))
theorem Slots.sub {R : List (List Int)} {m f k : Nat} (h : Slots R m) (hf : f < R.length) : Slots (subL R f k) m := by
  have key : ∀ r ∈ subL R f k, r.length = m ∧ By r := by
    intro r hr
    obtain ⟨i, hi, rfl⟩ := List.mem_iff_getElem.1 hr
    have hi' : i < R.length := by unfold subL at hi; rw [subTo_length] at hi; exact hi
    have e : (subL R f k)[i] = subAt (R.getD f []) f k i R[i] := by
      have := subTo_at (R.getD f []) f k R.length i hi'
      rw [if_pos hi'] at this
      exact this
    rw [e, getD_row R f hf]
    unfold subAt
    obtain ⟨l1, b1⟩ := h.at hi'
    obtain ⟨l2, b2⟩ := h.at hf
    split
    · exact ⟨(plusL_length (by omega) _).trans l1, plusL_by b1 b2 (by_toNat b1 k) (by omega)⟩
    · exact ⟨l1, b1⟩
  exact ⟨fun r hr => (key r hr).1, fun r hr => (key r hr).2⟩
theorem subL_length (R : List (List Int)) (f k : Nat) : (subL R f k).length = R.length := subTo_length _ _ _ _ _
theorem redTo_inv {rows : List (List Int)} {m : Nat} (hS : Slots rows m) : ∀ k, Slots (redTo rows k).1 m ∧ (redTo rows k).1.length = rows.length ∧ (redTo rows k).2.length ≤ rows.length := by
  intro k
  induction k with
  | zero => exact ⟨hS, rfl, Nat.zero_le _⟩
  | succ k ih =>
    rw [redTo_succ]
    obtain ⟨h1, h2, h3⟩ := ih
    generalize redTo rows k = st at h1 h2 h3
    unfold redStep
    split
    · rename_i hlt
      have htop : st.2.length < st.1.length := by unfold firstNz at hlt; omega
      refine ⟨Slots.sub (Slots.norm (Slots.swap h1 htop hlt) (by rw [swapL_length]; exact htop)) (by rw [normL_length, swapL_length]; exact htop), ?_, ?_⟩
      · rw [subL_length, normL_length, swapL_length, h2]
      · rw [List.length_append]
        show st.2.length + 1 ≤ _
        omega
    · exact ⟨h1, h2, h3⟩
/-! ### the walk -/
theorem info_int : (Try.prog.info? 3).map (fun i => (i.zero, i.size, i.bytes)) = some (some (.int .i64 0), 1, 8) := by kernel_rfl
theorem swap_get {α : Type} {l : List α} {i j : Nat} {x y : α} (hi : l[i]? = some x) (hj : l[j]? = some y) : ((l.set i y).set j x)[i]? = some y := by
  have li := (List.getElem?_eq_some_iff.1 hi).1
  by_cases e : j = i
  · subst e
    rw [hi] at hj
    injection hj with hj
    subst hj
    simp [li]
  · rw [List.getElem?_set_ne e]
    simp [li]
structure SwapJ (base b n cap : Nat) (w0 : World) (ks : List Value) (R : List (List Int)) (i j : Nat) (ui uj : Value) (ri rj : List Int) (d e : Bool) (w : World) : Prop where
  bx : Bx base b w0 w
  ei : ElIs base w (some b) ui ri
  ej : ElIs base w (some b) uj rj
  h0 : d = false → RowsIs base w (.slice (some ⟨b, 0, none⟩) n cap) ks R
  h1 : d = true → e = false → RowsIs base w (.slice (some ⟨b, 0, none⟩) n cap) (ks.set i uj) (R.set i rj)
  h2 : e = true → RowsIs base w (.slice (some ⟨b, 0, none⟩) n cap) ((ks.set i uj).set j ui) ((R.set i rj).set j ri)
theorem SwapJ.first {base b n cap : Nat} {w0 w : World} {ks : List Value} {R : List (List Int)} {i j : Nat} {ui uj : Value} {ri rj : List Int} {d e : Bool} (h : SwapJ base b n cap w0 ks R i j ui uj ri rj d e w) (hd : d = false) (he : e = false) : SwapJ base b n cap w0 ks R i j ui uj ri rj true e (w.setCell ⟨b, i, none⟩ uj) :=
  ⟨h.bx.setCell (h.h0 hd).base _ _, h.ei.ext (Ext.set b w i _), h.ej.ext (Ext.set b w i _), fun h => (by cases h), fun _ _ => (h.h0 hd).set i _ _ h.ej, fun h2 => absurd (he.symm.trans h2) (by decide)⟩
theorem SwapJ.last {base b n cap : Nat} {w0 w : World} {ks : List Value} {R : List (List Int)} {i j : Nat} {ui uj : Value} {ri rj : List Int} {d e : Bool} (h : SwapJ base b n cap w0 ks R i j ui uj ri rj d e w) (hd : d = true) (he : e = false) : SwapJ base b n cap w0 ks R i j ui uj ri rj d true (w.setCell ⟨b, j, none⟩ ui) :=
  ⟨h.bx.setCell (h.h1 hd he).base _ _, h.ei.ext (Ext.set b w j _), h.ej.ext (Ext.set b w j _), fun h2 => absurd (hd.symm.trans h2) (by decide), fun _ h2 => (by cases h2), fun _ => (h.h1 hd he).set j _ _ h.ei⟩
theorem RowsIs.cell_at {base b n cap : Nat} {w : World} {ks : List Value} {R : List (List Int)} (h : RowsIs base w (.slice (some ⟨b, 0, none⟩) n cap) ks R) {j : Nat} (hj : j < R.length) : ∃ A l c, w.cell? ⟨b, j, none⟩ = some (.slice A l c) := by
  obtain ⟨A, c, _, _, k, _⟩ := h.at j hj
  exact ⟨A, _, c, k⟩
structure NormJ (base b n cap : Nat) (w0 : World) (ks : List Value) (R : List (List Int)) (i : Nat) (rn : List Int) (d : Bool) (w : World) : Prop where
  bx : Bx base b w0 w
  h0 : d = false → RowsIs base w (.slice (some ⟨b, 0, none⟩) n cap) ks R
  h1 : d = true → ∃ ks', RowsIs base w (.slice (some ⟨b, 0, none⟩) n cap) ks' (R.set i rn)
theorem NormJ.below {base b n cap : Nat} {w0 w w' : World} {ks : List Value} {R : List (List Int)} {i : Nat} {rn : List Int} {d : Bool} (h : NormJ base b n cap w0 ks R i rn d w) (hd : d = false) (hb : Below w.heap.size w w') (hbase : base ≤ w0.heap.size) : NormJ base b n cap w0 ks R i rn d w' :=
  ⟨h.bx.trans (Bx.of_below hb (Nat.le_trans hbase h.bx.size)), fun _ => (h.h0 hd).below hb, fun h2 => absurd (hd.symm.trans h2) (by decide)⟩
theorem NormJ.store {base b n cap : Nat} {w0 w : World} {ks : List Value} {R : List (List Int)} {i : Nat} {rn : List Int} {d : Bool} {u : Value} (h : NormJ base b n cap w0 ks R i rn d w) (hd : d = false) (hu : ElIs base w (some b) u rn) : NormJ base b n cap w0 ks R i rn true (w.setCell ⟨b, i, none⟩ u) :=
  ⟨h.bx.setCell (h.h0 hd).base _ _, fun h => (by cases h), fun _ => ⟨_, (h.h0 hd).set i _ _ hu⟩⟩
theorem inv_step {base b n cap c : Nat} {w0 w : World} {ks : List Value} {R : List (List Int)} {i : Nat} {rn : List Int} {d : Bool} (h : NormJ base b n cap w0 ks R i rn d w) (hd : d = false) (hbase : base ≤ w0.heap.size) (lc : c < 256) :
    Calls Try.prog 79 #[.int .u8 (c : Int)] w fun e w' => ∃ v, e = .returned v ∧ v = .int .u8 ((Gy.ginv c : Nat) : Int) ∧ NormJ base b n cap w0 ks R i rn d w' ∧ Ext b w w' :=
  (Inv.inv_calls c w lc).mono fun e w' ⟨he, hb⟩ => ⟨_, he, rfl, h.below hd hb hbase, Ext.of_below hb⟩
theorem scale_step {base b n cap m c cj : Nat} {w0 w : World} {ks : List Value} {R : List (List Int)} {i : Nat} {rj : List Int} {d : Bool} {A : Option Addr} (h : NormJ base b n cap w0 ks R i (scaleL rj c) d w) (hd : d = false) (hbase : base ≤ w0.heap.size) (lc : c < 256)
    (hr : ReadsInt w .u8 A m rj) (hby : By rj) (hm : m ≤ 100000) :
    Calls Try.prog 53 #[.slice A m cj, .int .u8 (c : Int)] w fun e w' => ∃ v, e = .returned v ∧ (∃ A' c', v = .slice A' m c' ∧ ElIs base w' (some b) (.slice A' m c') (scaleL rj c)) ∧ NormJ base b n cap w0 ks R i (scaleL rj c) d w' ∧ Ext b w w' := by
  refine (scale_calls A cj m c rj w hr hby lc hm).mono ?_
  rintro e w' ⟨A', c', rfl, hmr⟩
  have hl : (scaleL rj c).length = m := (scaleL_length _ _).trans hr.1
  exact ⟨_, rfl, ⟨A', c', rfl, made_el hmr hl (by omega) (Nat.le_trans hbase h.bx.size) (own_lt (h.h0 hd).own b rfl)⟩, h.below hd hmr.2 hbase, Ext.of_below hmr.2⟩
structure RedAt (base b n cap : Nat) (W : World) (R : List (List Int)) (P : List Nat) (v : Value) (w : World) : Prop where
  rows : ∃ ks', RowsIs base w (.slice (some ⟨b, 0, none⟩) n cap) ks' R
  pl : Kd.R (Kd.int .i64) 3 w W.heap.size (fun _ => True) v (P.map Int.ofNat)
  bx : Bx base b W w
theorem typed_ne {w : World} {b1 b2 e1 e2 s1 s2 n1 n2 k : Nat} {u v : Value} {xs ys : List Value} (h1 : w.ownsRow b1 e1 s1 u n1 xs) (h2 : w.ownsRow b2 e2 s2 v n2 ys) (hne : e1 ≠ e2) (hk : u.ownBlock = some k) : some k ≠ v.ownBlock := by
  intro hv
  obtain ⟨c1, g1⟩ := own_typed h1 k hk
  obtain ⟨c2, g2⟩ := own_typed h2 k hv.symm
  rw [g1] at g2
  injection g2 with g2
  injection g2 with _ g2 _
  exact hne g2
theorem RowsIs.grown {base b2 s n : Nat} {w w' : World} {v p : Value} {ks ps : List Value} {R : List (List Int)} (h : RowsIs base w v ks R) (hp : w.ownsRow b2 3 s p n ps) (hg : w.grownBy w' p.ownBlock) : RowsIs base w' v ks R := by
  refine ⟨own_move h.own (fun k hk => hg.block k (own_lt h.own k hk) (typed_ne h.own hp (by decide) hk)), h.len, fun i u row h1 h2 => ?_⟩
  obtain ⟨A, c, e, hc, hR, hn⟩ := h.el i u row h1 h2
  have hmv : ∀ k, u.ownBlock = some k → w'.heap[k]? = w.heap[k]? := fun k hk => hg.block k (own_lt hn.1 k hk) (typed_ne hn.1 hp (by decide) hk)
  exact ⟨A, c, e, hc, reads_move hR (fun ad e2 _ => hmv _ (by rw [e, e2]; rfl)), own_move hn.1 hmv, hn.2⟩
theorem pl_ext {b : Nat} {W w w' : World} {v : Value} {xs : List Int} (h : Kd.R (Kd.int .i64) 3 w W.heap.size (fun _ => True) v xs) (hb : b < W.heap.size) (hx : Ext b w w') : Kd.R (Kd.int .i64) 3 w' W.heap.size (fun _ => True) v xs := by
  have := Kd.R_bound h
  exact Kd.R_mono (Kd.R_move this (fun k hk => hx.2 k hk.2.2.1 (by have := hk.2.1; omega))) (fun _ _ => trivial)
set_option maxHeartbeats 4000000 in
set_option maxRecDepth 100000 in
theorem reduce_calls (base b n cap N m : Nat) (ks : List Value) (rows : List (List Int)) (W : World) (h : RowsIs base W (.slice (some ⟨b, 0, none⟩) n cap) ks rows) (hbase : base ≤ W.heap.size) (hS : Slots rows m) (hm : m ≤ 100000) (hrl : rows.length ≤ 100000) (hN : N ≤ m) :
    Calls Try.prog 58 #[.slice (some ⟨b, 0, none⟩) n cap, .int .i64 (N : Int)] W fun e w' => ∃ v, e = .returned v ∧ RedAt base b n cap W (redTo rows N).1 (redTo rows N).2 v w' := by
  obtain rfl : n = rows.length := h.n_eq
  have hbW : b < W.heap.size := own_lt h.own b rfl
  have H := Lib.hid h
  have HP := Lib.hid (And.intro hbase (And.intro hS (And.intro hm (And.intro hrl (And.intro hN hbW)))))
  clear h hbase hS hm hrl hN hbW
  go_enter Try.func58, Try.ntmps58
  go_wp2_with fail
  go_loopw [5, 10] (fun v5 v10 wr => ∃ k : Nat, k ≤ N ∧ v10 = .int .i64 (k : Int) ∧ Gy.Hd (RedAt base b rows.length cap W (redTo rows k).1 (redTo rows k).2 v5 wr)) (fun _ v10 _ => N - (intOf v10).toNat)
  case atStart => exact ⟨0, Nat.zero_le _, rfl, ⟨⟨ks, H.out⟩, Kd.R_nil _ _ _ _ _, Bx.refl _ _ _⟩⟩
  case round =>
    obtain ⟨wb, rfl⟩ : ∃ wb, wb = wr := ⟨wr, rfl⟩
    obtain ⟨k, hk, rfl, hx⟩ := hrel
    have HX := Lib.hid hx.out
    clear hx
    by_cases hlt : k < N
    · have t3 := j_lt hlt
      have HJ := Lib.hid hlt
      have HWJ := Lib.hid (up_wrap hlt (by have := HP.out.2.2.1; have := HP.out.2.2.2.2.1; omega))
      have hwj := HWJ.out
      have hend := end_row hlt
      have HNX := Lib.hid (redTo_succ rows k)
      have HIV := Lib.hid (redTo_inv HP.out.2.1 k)
      generalize redTo rows k = st at HX HNX HIV
      obtain ⟨R, P⟩ := st
      obtain ⟨A5, c5, e5⟩ := Kd.R_slice HX.out.pl
      rw [List.length_map] at e5
      subst e5
      have HKM := Lib.hid (show k < m by have := HP.out.2.2.2.2.1; omega)
      obtain ⟨ks0, hr0⟩ := HX.out.rows
      have HR := Lib.hid hr0
      clear hr0 hlt
      go_wp2_with fail
      go_loopw [8] (fun v8 wr => ∃ i : Nat, P.length ≤ i ∧ i ≤ rows.length ∧ v8 = .int .i64 (i : Int) ∧ Gy.Hd (∀ j, P.length ≤ j → j < i → (R.getD j []).getD k 0 = 0) ∧ wr = wb) (fun v8 _ => rows.length - (intOf v8).toNat)
      case atStart => exact ⟨P.length, Nat.le_refl _, HIV.out.2.2, rfl, ⟨fun j h1 h2 => by omega⟩, rfl⟩
      case round =>
        obtain ⟨i, h1, h2, rfl, hz, rfl⟩ := hrel
        have HZ := Lib.hid hz.out
        have HI := Lib.hid (And.intro h1 h2)
        clear hz
        by_cases hil : i < rows.length
        · have t4 := j_lt hil
          have hlR : i < R.length := by have := HIV.out.2.1; omega
          obtain ⟨Aj, cj, kj, lj, kc, fz, rdj⟩ := HR.out.at i hlR
          obtain ⟨mj, byj⟩ := HIV.out.1.at hlR
          have ei : R.getD i [] = R[i] := getD_row R i hlR
          rw [mj] at kj lj kc rdj
          have hej : ElIs base wr (some b) (.slice Aj m cj) R[i] := HR.out.el i _ _ kj (List.getElem?_eq_getElem hlR)
          generalize R[i] = rj at ei mj byj rdj hej
          obtain ⟨adj, rfl, hcj⟩ := rdj.2.2 (by have := HKM.out; omega)
          obtain ⟨c, hc, lc⟩ := byj.at k (by rw [mj]; exact HKM.out)
          have kcc := hcj k HKM.out
          have egd : rj.getD k 0 = (c : Int) := by rw [getD_at rj k (by rw [mj]; exact HKM.out), hc]
          rw [egd] at kcc
          have tk : (k : Int) < (m : Int) := by have := HKM.out; omega
          have HEJ := Lib.hid hej
          clear hej
          have HC := Lib.hid (And.intro ei (And.intro egd (And.intro mj (And.intro byj (And.intro lc (And.intro kj (And.intro lj rdj)))))))
          have HIL := Lib.hid hil
          have HWI := Lib.hid (up_wrap hil (by have := HP.out.2.2.2.1; omega))
          have hwi := HWI.out
          have hendi := end_row hil
          clear ei egd mj byj rdj hcj hc lj hlR h1 h2
          by_cases hc0 : c = 0
          · subst hc0
            clear lc
            go_wp2_with fail
            (try rw [HWI.out])
            exact ⟨⟨i + 1, by have := HI.out.1; omega, HIL.out, by norm_cast, ⟨fun j h1 h2 => by
              by_cases e : j = i
              · subst e; rw [HC.out.1, HC.out.2.1]; rfl
              · exact HZ.out j h1 (by omega)⟩, trivial⟩, hendi⟩
          · have t6 : ((c : Int) == 0) = false := by simp; omega
            have t7 : ((c : Int) != 0) = true := by simp; omega
            have t8 : ((i : Int) == (rows.length : Int)) = false := by simp; omega
            have HF := Lib.hid (first_eq (R := R) (at_ := k) (top := P.length) (i := i) HI.out.1 (by have := HIV.out.2.1; omega) HZ.out (fun _ => by rw [HC.out.1, HC.out.2.1]; omega))
            have htop : P.length < R.length := by have := HI.out.1; have := HIV.out.2.1; omega
            have htp : P.length < rows.length := by have := HI.out.1; omega
            obtain ⟨Ai, ci, ki, li, kc2, _, rdi⟩ := HR.out.at P.length htop
            obtain ⟨mi, byi⟩ := HIV.out.1.at htop
            have eti : R.getD P.length [] = R[P.length] := getD_row R P.length htop
            rw [mi] at ki li kc2 rdi
            have hei : ElIs base wr (some b) (.slice Ai m ci) R[P.length] := HR.out.el P.length _ _ ki (List.getElem?_eq_getElem htop)
            generalize R[P.length] = ri at eti mi byi rdi hei
            have HE := Lib.hid (And.intro hei (And.intro HEJ.out (And.intro eti (And.intro ki (And.intro htop htp)))))
            have HCI := Lib.hid (fun (w : World) (h : RowsIs base w (.slice (some ⟨b, 0, none⟩) rows.length cap) ks0 R) => h.cell ki)
            have HCJ := Lib.hid (fun (w : World) (h : RowsIs base w (.slice (some ⟨b, 0, none⟩) rows.length cap) ks0 R) => h.cell kj)
            have tt : (P.length : Int) < (rows.length : Int) := by omega
            have ti : (i : Int) < (rows.length : Int) := by omega
            clear hei eti ki htop htp li kc2 rdi mi byi
            go_wp2_with fail
            have HJ0 : Gy.Hd (SwapJ base b rows.length cap wr ks0 R P.length i (.slice Ai m ci) (.slice (some adj) m cj) ri rj false false wr.drew) := ⟨Bx.of_below (Gy.drew_below wr) (Nat.le_trans HP.out.1 HX.out.bx.size), HE.out.1.ext (Ext.of_below (Gy.drew_below wr)), HE.out.2.1.ext (Ext.of_below (Gy.drew_below wr)), fun _ => HR.out.below (Gy.drew_below wr), fun h => (by cases h), fun h => (by cases h)⟩
            refine Gy.FlowL.flow (by kernel_rfl) (fun i_ => List.getD [(fun v _ => v = .slice (some ⟨b, 0, none⟩) rows.length cap), (fun v _ => v = .int .i64 (P.length : Int)), (fun v _ => v = .slice (some ⟨b, 0, none⟩) rows.length cap), (fun v _ => v = .int .i64 (i : Int)), (fun v _ => v = .slice (some ⟨b, 0, none⟩) rows.length cap), (fun v _ => v = .int .i64 (i : Int)), (fun v _ => v = .pointer (some ⟨b, i, none⟩)), (fun v _ => v = .slice (some adj) m cj), (fun v _ => v = .slice (some ⟨b, 0, none⟩) rows.length cap), (fun v _ => v = .int .i64 (P.length : Int)), (fun v _ => v = .pointer (some ⟨b, P.length, none⟩)), (fun v _ => v = .slice Ai m ci), (fun v _ => v = .pointer (some ⟨b, P.length, none⟩)), (fun _ _ => True), (fun v _ => v = .pointer (some ⟨b, i, none⟩)), (fun _ _ => True)] i_ (fun _ _ => True)) (fun L w => SwapJ base b rows.length cap wr ks0 R P.length i (.slice Ai m ci) (.slice (some adj) m cj) ri rj (L 13) (L 15) w) (fun w w' => Ext b w w') (by kernel_rfl) HJ0.out (Gy.FlowL.mono_list [(fun v _ => v = .slice (some ⟨b, 0, none⟩) rows.length cap), (fun v _ => v = .int .i64 (P.length : Int)), (fun v _ => v = .slice (some ⟨b, 0, none⟩) rows.length cap), (fun v _ => v = .int .i64 (i : Int)), (fun v _ => v = .slice (some ⟨b, 0, none⟩) rows.length cap), (fun v _ => v = .int .i64 (i : Int)), (fun v _ => v = .pointer (some ⟨b, i, none⟩)), (fun v _ => v = .slice (some adj) m cj), (fun v _ => v = .slice (some ⟨b, 0, none⟩) rows.length cap), (fun v _ => v = .int .i64 (P.length : Int)), (fun v _ => v = .pointer (some ⟨b, P.length, none⟩)), (fun v _ => v = .slice Ai m ci), (fun v _ => v = .pointer (some ⟨b, P.length, none⟩)), (fun _ _ => True), (fun v _ => v = .pointer (some ⟨b, i, none⟩)), (fun _ _ => True)] ?_) (Gy.FlowL.of_allFrom ⟨?_, ?_, ?_, ?_, ?_, ?_, ?_, ?_, ?_, ?_, ?_, ?_, ?_, ?_, ?_, ?_, trivial⟩) ?_
            · exact ⟨fun v w w' h hb => h, fun v w w' h hb => h, fun v w w' h hb => h, fun v w w' h hb => h, fun v w w' h hb => h, fun v w w' h hb => h, fun v w w' h hb => h, fun v w w' h hb => h, fun v w w' h hb => h, fun v w w' h hb => h, fun v w w' h hb => h, fun v w w' h hb => h, fun v w w' h hb => h, fun v w w' h hb => h, fun v w w' h hb => h, fun v w w' h hb => h, trivial⟩
            · intro L a w hD
              have e0 : a.eval (.tmp 0) = .slice (some ⟨b, 0, none⟩) rows.length cap := hD.same.at_other 0 (by kernel_rfl)
              exact Gy.FlowL.step_move rfl rfl (Gy.FlowL.wanted_none rfl) e0 hD.J (Ext.refl b w)
            · intro L a w hD
              have e7 : a.eval (.tmp 7) = .int .i64 (P.length : Int) := hD.same.at_other 7 (by kernel_rfl)
              exact Gy.FlowL.step_move rfl rfl (Gy.FlowL.wanted_none rfl) e7 hD.J (Ext.refl b w)
            · intro L a w hD
              have e0 : a.eval (.tmp 0) = .slice (some ⟨b, 0, none⟩) rows.length cap := hD.same.at_other 0 (by kernel_rfl)
              exact Gy.FlowL.step_move rfl rfl (Gy.FlowL.wanted_none rfl) e0 hD.J (Ext.refl b w)
            · intro L a w hD
              have e8 : a.eval (.tmp 8) = .int .i64 (i : Int) := hD.same.at_other 8 (by kernel_rfl)
              exact Gy.FlowL.step_move rfl rfl (Gy.FlowL.wanted_none rfl) e8 hD.J (Ext.refl b w)
            · intro L a w hD
              have e0 : a.eval (.tmp 0) = .slice (some ⟨b, 0, none⟩) rows.length cap := hD.same.at_other 0 (by kernel_rfl)
              exact Gy.FlowL.step_move rfl rfl (Gy.FlowL.wanted_none rfl) e0 hD.J (Ext.refl b w)
            · intro L a w hD
              have e8 : a.eval (.tmp 8) = .int .i64 (i : Int) := hD.same.at_other 8 (by kernel_rfl)
              exact Gy.FlowL.step_move rfl rfl (Gy.FlowL.wanted_none rfl) e8 hD.J (Ext.refl b w)
            · intro L a w hD
              have e40 : a.eval (.tmp 40) = .slice (some ⟨b, 0, none⟩) rows.length cap := hD.at 4 (by kernel_rfl)
              have e41 : a.eval (.tmp 41) = .int .i64 (i : Int) := hD.at 5 (by kernel_rfl)
              have f40 := e40; simp only [Act.eval, Array.getD_eq_getD_getElem?] at f40
              have f41 := e41; simp only [Act.eval, Array.getD_eq_getD_getElem?] at f41
              refine Gy.FlowL.step_value rfl (Gy.FlowL.wanted_none rfl) (v := .pointer (some ⟨b, i, none⟩)) (w1 := w) ?_ rfl hD.J (Ext.refl b w)
              simp only [execOp, e40, e41]; go_simp
            · intro L a w hD
              have e42 : a.eval (.tmp 42) = .pointer (some ⟨b, i, none⟩) := hD.at 6 (by kernel_rfl)
              have hR := hD.J.h0 (hD.later 13 (by kernel_rfl))
              have k0 := HCJ.out w hR
              have f42 := e42; simp only [Act.eval, Array.getD_eq_getD_getElem?] at f42
              refine Gy.FlowL.step_value rfl (Gy.FlowL.wanted_none rfl) (v := .slice (some adj) m cj) (w1 := w) ?_ rfl hD.J (Ext.refl b w)
              simp only [execOp, e42]; go_simp
            · intro L a w hD
              have e0 : a.eval (.tmp 0) = .slice (some ⟨b, 0, none⟩) rows.length cap := hD.same.at_other 0 (by kernel_rfl)
              exact Gy.FlowL.step_move rfl rfl (Gy.FlowL.wanted_none rfl) e0 hD.J (Ext.refl b w)
            · intro L a w hD
              have e7 : a.eval (.tmp 7) = .int .i64 (P.length : Int) := hD.same.at_other 7 (by kernel_rfl)
              exact Gy.FlowL.step_move rfl rfl (Gy.FlowL.wanted_none rfl) e7 hD.J (Ext.refl b w)
            · intro L a w hD
              have e44 : a.eval (.tmp 44) = .slice (some ⟨b, 0, none⟩) rows.length cap := hD.at 8 (by kernel_rfl)
              have e45 : a.eval (.tmp 45) = .int .i64 (P.length : Int) := hD.at 9 (by kernel_rfl)
              have f44 := e44; simp only [Act.eval, Array.getD_eq_getD_getElem?] at f44
              have f45 := e45; simp only [Act.eval, Array.getD_eq_getD_getElem?] at f45
              refine Gy.FlowL.step_value rfl (Gy.FlowL.wanted_none rfl) (v := .pointer (some ⟨b, P.length, none⟩)) (w1 := w) ?_ rfl hD.J (Ext.refl b w)
              simp only [execOp, e44, e45]; go_simp
            · intro L a w hD
              have e46 : a.eval (.tmp 46) = .pointer (some ⟨b, P.length, none⟩) := hD.at 10 (by kernel_rfl)
              have hR := hD.J.h0 (hD.later 13 (by kernel_rfl))
              have k0 := HCI.out w hR
              have f46 := e46; simp only [Act.eval, Array.getD_eq_getD_getElem?] at f46
              refine Gy.FlowL.step_value rfl (Gy.FlowL.wanted_none rfl) (v := .slice Ai m ci) (w1 := w) ?_ rfl hD.J (Ext.refl b w)
              simp only [execOp, e46]; go_simp
            · intro L a w hD
              have e36 : a.eval (.tmp 36) = .slice (some ⟨b, 0, none⟩) rows.length cap := hD.at 0 (by kernel_rfl)
              have e37 : a.eval (.tmp 37) = .int .i64 (P.length : Int) := hD.at 1 (by kernel_rfl)
              have f36 := e36; simp only [Act.eval, Array.getD_eq_getD_getElem?] at f36
              have f37 := e37; simp only [Act.eval, Array.getD_eq_getD_getElem?] at f37
              refine Gy.FlowL.step_value rfl (Gy.FlowL.wanted_none rfl) (v := .pointer (some ⟨b, P.length, none⟩)) (w1 := w) ?_ rfl hD.J (Ext.refl b w)
              simp only [execOp, e36, e37]; go_simp
            · intro L a w hD
              have e48 : a.eval (.tmp 48) = .pointer (some ⟨b, P.length, none⟩) := hD.at 12 (by kernel_rfl)
              have e43 : a.eval (.tmp 43) = .slice (some adj) m cj := hD.at 7 (by kernel_rfl)
              have h15 := hD.later 15 (by kernel_rfl)
              have hR := hD.J.h0 hD.not
              have f48 := e48; simp only [Act.eval, Array.getD_eq_getD_getElem?] at f48
              have f43 := e43; simp only [Act.eval, Array.getD_eq_getD_getElem?] at f43
              have k0 := HCI.out w hR
              have f0 := hR.free P.length
              refine Gy.FlowL.step_skip (w1 := w.setCell ⟨b, P.length, none⟩ (.slice (some adj) m cj)) rfl (Gy.FlowL.wanted_none rfl) ?_ trivial (hD.J.first hD.not h15) (Ext.set b w _ _)
              simp only [execOp, e48, e43]; go_simp
            · intro L a w hD
              have e38 : a.eval (.tmp 38) = .slice (some ⟨b, 0, none⟩) rows.length cap := hD.at 2 (by kernel_rfl)
              have e39 : a.eval (.tmp 39) = .int .i64 (i : Int) := hD.at 3 (by kernel_rfl)
              have f38 := e38; simp only [Act.eval, Array.getD_eq_getD_getElem?] at f38
              have f39 := e39; simp only [Act.eval, Array.getD_eq_getD_getElem?] at f39
              refine Gy.FlowL.step_value rfl (Gy.FlowL.wanted_none rfl) (v := .pointer (some ⟨b, i, none⟩)) (w1 := w) ?_ rfl hD.J (Ext.refl b w)
              simp only [execOp, e38, e39]; go_simp
            · intro L a w hD
              have e49 : a.eval (.tmp 49) = .pointer (some ⟨b, i, none⟩) := hD.at 14 (by kernel_rfl)
              have e47 : a.eval (.tmp 47) = .slice Ai m ci := hD.at 11 (by kernel_rfl)
              have h13 := hD.waits 13 (by kernel_rfl)
              have hR := hD.J.h1 h13 hD.not
              have f49 := e49; simp only [Act.eval, Array.getD_eq_getD_getElem?] at f49
              have f47 := e47; simp only [Act.eval, Array.getD_eq_getD_getElem?] at f47
              obtain ⟨A0, l0, c0, k0⟩ := RowsIs.cell_at hR (j := i) (by rw [List.length_set]; have := HIV.out.2.1; have := HIL.out; omega)
              have f0 := hR.free i
              refine Gy.FlowL.step_skip (w1 := w.setCell ⟨b, i, none⟩ (.slice Ai m ci)) rfl (Gy.FlowL.wanted_none rfl) ?_ trivial (hD.J.last h13 hD.not) (Ext.set b w _ _)
              simp only [execOp, e49, e47]; go_simp
            · intro L a w hs hJ hL hv
              have hJ1 : SwapJ base b rows.length cap wr ks0 R P.length i (.slice Ai m ci) (.slice (some adj) m cj) ri rj true true w := by
                have g1 := hL 13 (by decide)
                have g2 := hL 15 (by decide)
                rw [g1, g2] at hJ
                exact hJ
              have hp := Gy.FlowL.same_puts (by kernel_rfl) hs
              generalize Gy.FlowL.At _ a = vs at hp
              have esw : (R.set P.length rj).set i ri = swapL R P.length i := by unfold swapL; rw [HC.out.1, HE.out.2.2.1]
              have hR1 := hJ1.h2 rfl
              rw [esw] at hR1
              have hk1 := swap_get (x := (.slice Ai m ci : Value)) (y := .slice (some adj) m cj) HE.out.2.2.2.1 HC.out.2.2.2.2.2.1
              generalize (ks0.set P.length (.slice (some adj) m cj)).set i (.slice Ai m ci) = ks1 at hR1 hk1
              have hlr : P.length < (swapL R P.length i).length := by rw [swapL_length]; exact HE.out.2.2.2.2.1
              have eat : (swapL R P.length i).getD P.length [] = rj := (swapL_at R P.length i HE.out.2.2.2.2.1 (by have := HIV.out.2.1; have := HIL.out; omega)).trans HC.out.1
              have HR1 := Lib.hid (And.intro hR1 (And.intro hk1 (And.intro hlr (And.intro eat hJ1.bx))))
              clear hv hs hJ hJ1 hL hR1 hlr eat esw
              have HCT := Lib.hid (fun (w : World) (h : RowsIs base w (.slice (some ⟨b, 0, none⟩) rows.length cap) ks1 (swapL R P.length i)) => h.cell hk1)
              have HRT := Lib.hid (fun (w : World) (h : RowsIs base w (.slice (some ⟨b, 0, none⟩) rows.length cap) ks1 (swapL R P.length i)) => h.reads HR1.out.2.2.1 hk1 ((getD_row _ _ HR1.out.2.2.1).symm.trans HR1.out.2.2.2.1))
              have HCB := Lib.hid (fun (w : World) (h : RowsIs base w (.slice (some ⟨b, 0, none⟩) rows.length cap) ks1 (swapL R P.length i)) => reads_cell (HRT.out w h) HKM.out HC.out.2.1)
              clear hk1
              subst hp
              simp only [Gy.FlowL.puts, Act.put, List.setIfInBounds_toArray, List.set_cons_zero, List.set_cons_succ]
              go_wp2_with fail
              obtain ⟨w1, rfl⟩ : ∃ w1, w1 = w := ⟨w, rfl⟩
              have hsz1 : base ≤ w1.heap.size := Nat.le_trans (Nat.le_trans HP.out.1 HX.out.bx.size) HR1.out.2.2.2.2.size
              have HS1 := Lib.hid hsz1
              clear hsz1
              have HK0 : Gy.Hd (NormJ base b rows.length cap w1 ks1 (swapL R P.length i) P.length (scaleL rj (Gy.ginv c)) false w1.drew) := ⟨Bx.of_below (Gy.drew_below w1) HS1.out, fun _ => HR1.out.1.below (Gy.drew_below w1), fun h => (by cases h)⟩
              refine Gy.FlowL.flow (by kernel_rfl) (fun i_ => List.getD [(fun v _ => v = .slice (some ⟨b, 0, none⟩) rows.length cap), (fun v _ => v = .int .i64 (P.length : Int)), (fun v _ => v = .slice (some ⟨b, 0, none⟩) rows.length cap), (fun v _ => v = .int .i64 (P.length : Int)), (fun v _ => v = .pointer (some ⟨b, P.length, none⟩)), (fun v _ => v = .slice (some adj) m cj), (fun v _ => v = .slice (some ⟨b, 0, none⟩) rows.length cap), (fun v _ => v = .int .i64 (P.length : Int)), (fun v _ => v = .pointer (some ⟨b, P.length, none⟩)), (fun v _ => v = .slice (some adj) m cj), (fun v _ => v = .int .i64 (k : Int)), (fun v _ => v = .pointer (some (adj.add k))), (fun v _ => v = .int .u8 (c : Int)), (fun v _ => v = .int .u8 ((Gy.ginv c : Nat) : Int)), (fun v w => ∃ A c', v = .slice A m c' ∧ ElIs base w (some b) (.slice A m c') (scaleL rj (Gy.ginv c))), (fun v _ => v = .pointer (some ⟨b, P.length, none⟩)), (fun _ _ => True)] i_ (fun _ _ => True)) (fun L w => NormJ base b rows.length cap w1 ks1 (swapL R P.length i) P.length (scaleL rj (Gy.ginv c)) (L 16) w) (fun w w' => Ext b w w') (by kernel_rfl) HK0.out (Gy.FlowL.mono_list [(fun v _ => v = .slice (some ⟨b, 0, none⟩) rows.length cap), (fun v _ => v = .int .i64 (P.length : Int)), (fun v _ => v = .slice (some ⟨b, 0, none⟩) rows.length cap), (fun v _ => v = .int .i64 (P.length : Int)), (fun v _ => v = .pointer (some ⟨b, P.length, none⟩)), (fun v _ => v = .slice (some adj) m cj), (fun v _ => v = .slice (some ⟨b, 0, none⟩) rows.length cap), (fun v _ => v = .int .i64 (P.length : Int)), (fun v _ => v = .pointer (some ⟨b, P.length, none⟩)), (fun v _ => v = .slice (some adj) m cj), (fun v _ => v = .int .i64 (k : Int)), (fun v _ => v = .pointer (some (adj.add k))), (fun v _ => v = .int .u8 (c : Int)), (fun v _ => v = .int .u8 ((Gy.ginv c : Nat) : Int)), (fun v w => ∃ A c', v = .slice A m c' ∧ ElIs base w (some b) (.slice A m c') (scaleL rj (Gy.ginv c))), (fun v _ => v = .pointer (some ⟨b, P.length, none⟩)), (fun _ _ => True)] ?_) (Gy.FlowL.of_allFrom ⟨?_, ?_, ?_, ?_, ?_, ?_, ?_, ?_, ?_, ?_, ?_, ?_, ?_, ?_, ?_, ?_, ?_, trivial⟩) ?_
              · exact ⟨fun v w w' h hb => h, fun v w w' h hb => h, fun v w w' h hb => h, fun v w w' h hb => h, fun v w w' h hb => h, fun v w w' h hb => h, fun v w w' h hb => h, fun v w w' h hb => h, fun v w w' h hb => h, fun v w w' h hb => h, fun v w w' h hb => h, fun v w w' h hb => h, fun v w w' h hb => h, fun v w w' h hb => h, fun v w w' ⟨A, c, e, h⟩ hb => ⟨A, c, e, h.ext hb⟩, fun v w w' h hb => h, fun v w w' h hb => h, trivial⟩
              · intro L a w hD
                have e0 : a.eval (.tmp 0) = .slice (some ⟨b, 0, none⟩) rows.length cap := hD.same.at_other 0 (by kernel_rfl)
                exact Gy.FlowL.step_move rfl rfl (Gy.FlowL.wanted_none rfl) e0 hD.J (Ext.refl b w)
              · intro L a w hD
                have e7 : a.eval (.tmp 7) = .int .i64 (P.length : Int) := hD.same.at_other 7 (by kernel_rfl)
                exact Gy.FlowL.step_move rfl rfl (Gy.FlowL.wanted_none rfl) e7 hD.J (Ext.refl b w)
              · intro L a w hD
                have e0 : a.eval (.tmp 0) = .slice (some ⟨b, 0, none⟩) rows.length cap := hD.same.at_other 0 (by kernel_rfl)
                exact Gy.FlowL.step_move rfl rfl (Gy.FlowL.wanted_none rfl) e0 hD.J (Ext.refl b w)
              · intro L a w hD
                have e7 : a.eval (.tmp 7) = .int .i64 (P.length : Int) := hD.same.at_other 7 (by kernel_rfl)
                exact Gy.FlowL.step_move rfl rfl (Gy.FlowL.wanted_none rfl) e7 hD.J (Ext.refl b w)
              · intro L a w hD
                have e52 : a.eval (.tmp 52) = .slice (some ⟨b, 0, none⟩) rows.length cap := hD.at 2 (by kernel_rfl)
                have e53 : a.eval (.tmp 53) = .int .i64 (P.length : Int) := hD.at 3 (by kernel_rfl)
                have f52 := e52; simp only [Act.eval, Array.getD_eq_getD_getElem?] at f52
                have f53 := e53; simp only [Act.eval, Array.getD_eq_getD_getElem?] at f53
                refine Gy.FlowL.step_value rfl (Gy.FlowL.wanted_none rfl) (v := .pointer (some ⟨b, P.length, none⟩)) (w1 := w) ?_ rfl hD.J (Ext.refl b w)
                simp only [execOp, e52, e53]; go_simp
              · intro L a w hD
                have e54 : a.eval (.tmp 54) = .pointer (some ⟨b, P.length, none⟩) := hD.at 4 (by kernel_rfl)
                have hR := hD.J.h0 (hD.later 16 (by kernel_rfl))
                have k0 := HCT.out w hR
                have f54 := e54; simp only [Act.eval, Array.getD_eq_getD_getElem?] at f54
                refine Gy.FlowL.step_value rfl (Gy.FlowL.wanted_none rfl) (v := .slice (some adj) m cj) (w1 := w) ?_ rfl hD.J (Ext.refl b w)
                simp only [execOp, e54]; go_simp
              · intro L a w hD
                have e0 : a.eval (.tmp 0) = .slice (some ⟨b, 0, none⟩) rows.length cap := hD.same.at_other 0 (by kernel_rfl)
                exact Gy.FlowL.step_move rfl rfl (Gy.FlowL.wanted_none rfl) e0 hD.J (Ext.refl b w)
              · intro L a w hD
                have e7 : a.eval (.tmp 7) = .int .i64 (P.length : Int) := hD.same.at_other 7 (by kernel_rfl)
                exact Gy.FlowL.step_move rfl rfl (Gy.FlowL.wanted_none rfl) e7 hD.J (Ext.refl b w)
              · intro L a w hD
                have e56 : a.eval (.tmp 56) = .slice (some ⟨b, 0, none⟩) rows.length cap := hD.at 6 (by kernel_rfl)
                have e57 : a.eval (.tmp 57) = .int .i64 (P.length : Int) := hD.at 7 (by kernel_rfl)
                have f56 := e56; simp only [Act.eval, Array.getD_eq_getD_getElem?] at f56
                have f57 := e57; simp only [Act.eval, Array.getD_eq_getD_getElem?] at f57
                refine Gy.FlowL.step_value rfl (Gy.FlowL.wanted_none rfl) (v := .pointer (some ⟨b, P.length, none⟩)) (w1 := w) ?_ rfl hD.J (Ext.refl b w)
                simp only [execOp, e56, e57]; go_simp
              · intro L a w hD
                have e58 : a.eval (.tmp 58) = .pointer (some ⟨b, P.length, none⟩) := hD.at 8 (by kernel_rfl)
                have hR := hD.J.h0 (hD.later 16 (by kernel_rfl))
                have k0 := HCT.out w hR
                have f58 := e58; simp only [Act.eval, Array.getD_eq_getD_getElem?] at f58
                refine Gy.FlowL.step_value rfl (Gy.FlowL.wanted_none rfl) (v := .slice (some adj) m cj) (w1 := w) ?_ rfl hD.J (Ext.refl b w)
                simp only [execOp, e58]; go_simp
              · intro L a w hD
                have e6 : a.eval (.tmp 6) = .int .i64 (k : Int) := hD.same.at_other 6 (by kernel_rfl)
                exact Gy.FlowL.step_move rfl rfl (Gy.FlowL.wanted_none rfl) e6 hD.J (Ext.refl b w)
              · intro L a w hD
                have e59 : a.eval (.tmp 59) = .slice (some adj) m cj := hD.at 9 (by kernel_rfl)
                have e60 : a.eval (.tmp 60) = .int .i64 (k : Int) := hD.at 10 (by kernel_rfl)
                have f59 := e59; simp only [Act.eval, Array.getD_eq_getD_getElem?] at f59
                have f60 := e60; simp only [Act.eval, Array.getD_eq_getD_getElem?] at f60
                refine Gy.FlowL.step_value rfl (Gy.FlowL.wanted_none rfl) (v := .pointer (some (adj.add k))) (w1 := w) ?_ rfl hD.J (Ext.refl b w)
                simp only [execOp, e59, e60]; go_simp
              · intro L a w hD
                have e61 : a.eval (.tmp 61) = .pointer (some (adj.add k)) := hD.at 11 (by kernel_rfl)
                have hR := hD.J.h0 (hD.later 16 (by kernel_rfl))
                have k0 := HCB.out w hR
                have f61 := e61; simp only [Act.eval, Array.getD_eq_getD_getElem?] at f61
                refine Gy.FlowL.step_value rfl (Gy.FlowL.wanted_none rfl) (v := .int .u8 (c : Int)) (w1 := w) ?_ rfl hD.J (Ext.refl b w)
                simp only [execOp, e61]; go_simp
              · intro L a w hD
                have e62 : a.eval (.tmp 62) = .int .u8 (c : Int) := hD.at 12 (by kernel_rfl)
                have h16 := hD.later 16 (by kernel_rfl)
                refine Gy.FlowL.step_call (args := #[.int .u8 (c : Int)]) rfl (Gy.FlowL.wanted_none rfl) Try.func79 (by kernel_rfl) (by kernel_rfl) rfl (by simp only [List.map_toArray, List.map_cons, List.map_nil, e62]) ?_
                exact inv_step hD.J h16 HS1.out HC.out.2.2.2.2.1
              · intro L a w hD
                have e55 : a.eval (.tmp 55) = .slice (some adj) m cj := hD.at 5 (by kernel_rfl)
                have e63 : a.eval (.tmp 63) = .int .u8 ((Gy.ginv c : Nat) : Int) := hD.at 13 (by kernel_rfl)
                have h16 := hD.later 16 (by kernel_rfl)
                refine Gy.FlowL.step_call (args := #[.slice (some adj) m cj, .int .u8 ((Gy.ginv c : Nat) : Int)]) rfl (Gy.FlowL.wanted_none rfl) Try.func53 (by kernel_rfl) (by kernel_rfl) rfl (by simp only [List.map_toArray, List.map_cons, List.map_nil, e55, e63]) ?_
                exact scale_step hD.J h16 HS1.out (Gy.ginv_lt HC.out.2.2.2.2.1) (HRT.out w (hD.J.h0 h16)) HC.out.2.2.2.1 HP.out.2.2.1
              · intro L a w hD
                have e50 : a.eval (.tmp 50) = .slice (some ⟨b, 0, none⟩) rows.length cap := hD.at 0 (by kernel_rfl)
                have e51 : a.eval (.tmp 51) = .int .i64 (P.length : Int) := hD.at 1 (by kernel_rfl)
                have f50 := e50; simp only [Act.eval, Array.getD_eq_getD_getElem?] at f50
                have f51 := e51; simp only [Act.eval, Array.getD_eq_getD_getElem?] at f51
                refine Gy.FlowL.step_value rfl (Gy.FlowL.wanted_none rfl) (v := .pointer (some ⟨b, P.length, none⟩)) (w1 := w) ?_ rfl hD.J (Ext.refl b w)
                simp only [execOp, e50, e51]; go_simp
              · intro L a w hD
                have e65 : a.eval (.tmp 65) = .pointer (some ⟨b, P.length, none⟩) := hD.at 15 (by kernel_rfl)
                have q64 : (fun v w => ∃ A c', v = .slice A m c' ∧ ElIs base w (some b) (.slice A m c') (scaleL rj (Gy.ginv c))) (a.eval (.tmp 64)) w := hD.at 14 (by kernel_rfl)
                obtain ⟨A64, c64, e64, r64⟩ := q64
                have hR := hD.J.h0 hD.not
                have f65 := e65; simp only [Act.eval, Array.getD_eq_getD_getElem?] at f65
                have f64 := e64; simp only [Act.eval, Array.getD_eq_getD_getElem?] at f64
                have k0 := HCT.out w hR
                have f0 := hR.free P.length
                refine Gy.FlowL.step_skip (w1 := w.setCell ⟨b, P.length, none⟩ (.slice A64 m c64)) rfl (Gy.FlowL.wanted_none rfl) ?_ trivial (hD.J.store hD.not r64) (Ext.set b w _ _)
                simp only [execOp, e65, e64]; go_simp
              · intro L a w hs hJ hL hv
                have hN1 : NormJ base b rows.length cap w1 ks1 (swapL R P.length i) P.length (scaleL rj (Gy.ginv c)) true w := by
                  have g1 := hL 16 (by decide)
                  rw [g1] at hJ
                  exact hJ
                have hp := Gy.FlowL.same_puts (by kernel_rfl) hs
                generalize Gy.FlowL.At _ a = vs2 at hp
                obtain ⟨ks2, hR2⟩ := hN1.h1 rfl
                have en : (swapL R P.length i).set P.length (scaleL rj (Gy.ginv c)) = normL (swapL R P.length i) P.length k := by unfold normL; rw [HR1.out.2.2.2.1, HC.out.2.1, Int.toNat_natCast]
                rw [en] at hR2
                have hSl : Slots (normL (swapL R P.length i) P.length k) m := Slots.norm (Slots.swap HIV.out.1 HE.out.2.2.2.2.1 (by have := HIV.out.2.1; have := HIL.out; omega)) HR1.out.2.2.1
                have hl2 : (normL (swapL R P.length i) P.length k).length = rows.length := by rw [normL_length, swapL_length]; exact HIV.out.2.1
                have hbx : Bx base b wr w := HR1.out.2.2.2.2.trans hN1.bx
                have hsub := sub_calls base b rows.length cap P.length k m ks2 _ w hR2 (Nat.le_trans HS1.out hN1.bx.size) hSl HP.out.2.2.1 (by rw [hl2]; exact HE.out.2.2.2.2.2) (by rw [hl2]; exact HP.out.2.2.2.1) HKM.out
                have HSUB := Lib.hid hsub
                have HBX := Lib.hid hbx
                clear hv hs hJ hN1 hL hR2 en hSl hl2 hsub hbx
                subst hp
                simp only [Gy.FlowL.puts, Act.put, List.setIfInBounds_toArray, List.set_cons_zero, List.set_cons_succ]
                go_wp2_with (first
                  | (go_at_call 80; (with_reducible refine HSUB.out.mono ?_); rintro e w3 ⟨rfl, h3, b3⟩; have H3 := Lib.hid (And.intro h3 (HBX.out.trans b3)); clear h3 b3)
                  | (at_builtin; refine Kd.R_append (Kd.int .i64) (w0 := w3) W.heap.size rfl (.tmp 70) (.tmp 72) 36 3 (.int .i64 0) 8 rfl Try.underlying36 info_int rfl (by decide) (by omega) (.slice A5 P.length c5) (P.map Int.ofNat) (k : Int) [.int .i64 (k : Int)] (fun _ => True) (fun _ => False) rfl rfl ?aP (fun _ h => h.elim) (fun _ _ => trivial) (pl_ext HX.out.pl HP.out.2.2.2.2.2 H3.out.2.ext) (Below.refl _ _) ?aS ?aL ?_
                     (case aP => rfl)
                     (case aS => exact Nat.le_trans HX.out.bx.size H3.out.2.size)
                     (case aL => have := HIV.out.2.2; have := HP.out.2.2.2.1; rw [List.length_map]; omega)
                     intro v5 w5 hr5 hb5 hg5 _
                     have H5 := Lib.hid (And.intro hr5 (And.intro hb5 hg5))
                     clear hr5 hb5 hg5))
                (try rw [HWJ.out])
                refine ⟨⟨k + 1, HJ.out, by norm_cast, ⟨?_⟩⟩, hend⟩
                have est : redStep (R, P) k = (subL (normL (swapL R P.length i) P.length k) P.length k, P ++ [k]) := by
                  unfold redStep
                  simp only [HF.out]
                  rw [if_pos (by have := HIV.out.2.1; have := HIL.out; omega)]
                rw [HNX.out, est]
                obtain ⟨ks3, hR3⟩ := H3.out.1
                have hbw := HX.out.bx.trans H3.out.2
                obtain ⟨inner, hin⟩ := Kd.R_own (pl_ext HX.out.pl HP.out.2.2.2.2.2 H3.out.2.ext)
                refine ⟨⟨ks3, RowsIs.grown hR3 hin H5.out.2.2⟩, ?_, hbw.trans_at H5.out.2.1 H5.out.2.2.size HP.out.1⟩
                show Kd.R (Kd.int .i64) 3 _ _ _ _ ((P ++ [k]).map Int.ofNat)
                rw [List.map_append]
                exact H5.out.1
        · have hie : i = rows.length := by omega
          subst hie
          have t4 : decide ((rows.length : Int) < (rows.length : Int)) = false := by simp
          have t8 : ((rows.length : Int) == (rows.length : Int)) = true := by simp
          clear h1 h2 hil
          go_wp2_with fail
          (try rw [HWJ.out])
          refine ⟨⟨k + 1, HJ.out, by norm_cast, ⟨?_⟩⟩, hend⟩
          have hf := first_eq (R := R) (at_ := k) (top := P.length) (i := rows.length) HIV.out.2.2 (by rw [HIV.out.2.1]; exact Nat.le_refl _) HZ.out (fun h => absurd h (by have := HIV.out.2.1; omega))
          have est : redStep (R, P) k = (R, P) := by
            unfold redStep
            simp only [hf]
            rw [if_neg (by have := HIV.out.2.1; omega)]
          rw [HNX.out, est]
          exact HX.out
    · obtain rfl : k = N := Nat.le_antisymm hk (Nat.le_of_not_lt hlt)
      have t3 : decide ((k : Int) < (k : Int)) = false := by simp
      go_wp2_with fail
      go_ret
      exact ⟨_, rfl, HX.out⟩
end Go.Proofs.Ytcmigmldecacpaa.Reduce
