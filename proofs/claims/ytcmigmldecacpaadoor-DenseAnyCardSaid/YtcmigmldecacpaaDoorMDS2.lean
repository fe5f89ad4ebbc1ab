/- The walk over dense.reduce. -/
import Derived.Test.YtcmigmldecacpaaDoorMDS1
import Derived.Test.YtcmigmldecacpaaDoorProg
import Derived.Below
import Derived.Deep.Draws
import Derived.Deep.AppendLies
import Derived.Maps.AppendAt
import Derived.OwnWalk
import Derived.Laws.BytesArg
import Derived.Laws.MakeOwn
import Derived.Laws.OwnMore
import Derived.Deep.OwnRows
import Derived.Tactics
import Derived.Lib.ConvBytes
import Derived.Laws.Slices
import Derived.WalkKit
import Derived.KernelRfl
import Derived.RowKit3
import Derived.Deep.LoopGhost
import Derived.Deep.QuietTactic
import Derived.BigQuiet
import Derived.WideLaws
import Derived.Deep.DeepCutAuto
import Derived.Deep.CutBlock
import Derived.Deep.RegionHeld3
import Derived.Laws.Rows
import Derived.Lib.AppendStr
import Derived.ArgAppend
import Derived.Laws.IdiomCopy
import Derived.OrdersHeld
import Derived.Laws.BitsLemmas
import Derived.RowKit
import Derived.Test.YtcmigmldecacpaaDoorWWords
import Derived.Test.YtcmigmldecacpaaDoorWLast
import Derived.Test.YtcmigmldecacpaaDoorWTab
import Derived.Test.YtcmigmldecacpaaDoorWFour
import Derived.Test.YtcmigmldecacpaaDoorWQPut
import Derived.Test.YtcmigmldecacpaaDoorWApart
import Derived.Test.YtcmigmldecacpaaDoorWArr
import Derived.Test.YtcmigmldecacpaaDoorWZeros
import Derived.Test.YtcmigmldecacpaaDoorWFoot
import Derived.Test.YtcmigmldecacpaaDoorWKept
import Derived.Test.YtcmigmldecacpaaDoorWShare
import Derived.Test.YtcmigmldecacpaaDoorWN
import Derived.Test.YtcmigmldecacpaaDoorWFootNe
import Derived.Test.YtcmigmldecacpaaDoorWAt
import Derived.Test.YtcmigmldecacpaaDoorWEqStruct
import Derived.Test.YtcmigmldecacpaaDoorWRepsOne
import Derived.Test.YtcmigmldecacpaaDoorWInv
import Derived.Test.YtcmigmldecacpaaDoorWInvWords
import Derived.Test.YtcmigmldecacpaaDoorWGuard
import Derived.Test.YtcmigmldecacpaaDoorWNEv
import Derived.Test.YtcmigmldecacpaaDoorWMore

namespace Go.Proofs.YtcmigmldecacpaaDoor.Reduce
open Go Go.RowKit Go.Proofs.YtcmigmldecacpaaDoorW.PrintWords Go.Proofs.YtcmigmldecacpaaDoorW.PrintLast Go.Proofs.YtcmigmldecacpaaDoorW.PrintMore Go.Proofs.YtcmigmldecacpaaDoor.Vec Go.Proofs.YtcmigmldecacpaaDoor.Giv Go.Proofs.YtcmigmldecacpaaDoor.Dense
set_option linter.unusedSimpArgs false
set_option linter.unusedVariables false

/-! ### what it computes -/
def nz (at_ : Nat) (r : List Int) : Bool := decide (r.getD at_ 0 ≠ 0)
def firstNz (R : List (List Int)) (at_ top : Nat) : Nat := top + (R.drop top).findIdx (nz at_)
def swapL (R : List (List Int)) (i j : Nat) : List (List Int) := (R.set i (R.getD j [])).set j (R.getD i [])
def normL (R : List (List Int)) (top at_ : Nat) : List (List Int) := R.set top (scaleL (R.getD top []) (Gy.ginv ((R.getD top []).getD at_ 0).toNat))
def redStep (st : List (List Int) × List Nat) (at_ : Nat) : List (List Int) × List Nat :=
  if firstNz st.1 at_ st.2.length < st.1.length then (subL (normL (swapL st.1 st.2.length (firstNz st.1 at_ st.2.length)) st.2.length at_) st.2.length at_, st.2 ++ [at_]) else st
def redTo (rows : List (List Int)) (k : Nat) : List (List Int) × List Nat := (List.range k).foldl redStep (rows, [])
theorem redTo_zero (rows : List (List Int)) : redTo rows 0 = (rows, []) := rfl
theorem redTo_succ (rows : List (List Int)) (k : Nat) : redTo rows (k + 1) = redStep (redTo rows k) k := by
  unfold redTo
  rw [List.range_succ, List.foldl_append]
  rfl
theorem first_eq {R : List (List Int)} {at_ top i : Nat} (h1 : top ≤ i) (h2 : i ≤ R.length) (h3 : ∀ j, top ≤ j → j < i → (R.getD j []).getD at_ 0 = 0) (h4 : i < R.length → (R.getD i []).getD at_ 0 ≠ 0) : firstNz R at_ top = i := by
  obtain ⟨d, rfl⟩ : ∃ d, i = top + d := ⟨i - top, by omega⟩
  unfold firstNz
  congr 1
  have key : ∀ j (hj : j < (R.drop top).length), (R.drop top)[j] = R.getD (top + j) [] := fun j hj => by
    rw [List.getElem_drop, List.getD_eq_getElem?_getD, List.getElem?_eq_getElem (by rw [List.length_drop] at hj; omega)]
    rfl
  by_cases hd : d < (R.drop top).length
  · rw [List.findIdx_eq hd]
    refine ⟨?_, fun j hj => ?_⟩
    · rw [key d hd]
      exact decide_eq_true (h4 (by rw [List.length_drop] at hd; omega))
    · rw [key j (by omega)]
      exact decide_eq_false (fun h => h (h3 (top + j) (by omega) (by omega)))
  · have hd2 : d = (R.drop top).length := by rw [List.length_drop] at hd ⊢; omega
    rw [hd2, List.findIdx_eq_length]
    intro r hr
    obtain ⟨j, hj, rfl⟩ := List.mem_iff_getElem.1 hr
    rw [key j hj]
    exact decide_eq_false (fun h => h (h3 (top + j) (by omega) (by omega)))
theorem Slots.set {R : List (List Int)} {m i : Nat} {r : List Int} (h : Slots R m) (hl : r.length = m) (hb : By r) : Slots (R.set i r) m :=
  ⟨fun x hx => (List.mem_or_eq_of_mem_set hx).elim (h.len x) (fun e => e ▸ hl), fun x hx => (List.mem_or_eq_of_mem_set hx).elim (h.b x) (fun e => e ▸ hb)⟩
theorem getD_row (R : List (List Int)) (i : Nat) (hi : i < R.length) : R.getD i [] = R[i] := by simp [List.getD_eq_getElem?_getD, hi]
theorem swapL_length (R : List (List Int)) (i j : Nat) : (swapL R i j).length = R.length := by simp [swapL]
theorem swapL_at (R : List (List Int)) (i j : Nat) (hi : i < R.length) (hj : j < R.length) : (swapL R i j).getD i [] = R.getD j [] := by
  unfold swapL
  by_cases e : j = i
  · subst e; simp [List.getD_eq_getElem?_getD, hj]
  · simp [List.getD_eq_getElem?_getD, hi, hj, e]
theorem Slots.swap {R : List (List Int)} {m i j : Nat} (h : Slots R m) (hi : i < R.length) (hj : j < R.length) : Slots (swapL R i j) m := by
  unfold swapL
  rw [getD_row R i hi, getD_row R j hj]
  exact Slots.set (Slots.set h (h.at hj).1 (h.at hj).2) (h.at hi).1 (h.at hi).2
theorem normL_length (R : List (List Int)) (i j : Nat) : (normL R i j).length = R.length := by simp [normL]
theorem by_toNat {r : List Int} (h : By r) (i : Nat) : (r.getD i 0).toNat < 256 := by
  by_cases hi : i < r.length
  · rw [Dense.getD_at r i hi]
    have := h _ (List.getElem_mem hi)
    omega
  · rw [List.getD_eq_getElem?_getD, List.getElem?_eq_none (by omega)]
    decide
theorem Slots.norm {R : List (List Int)} {m i k : Nat} (h : Slots R m) (hi : i < R.length) : Slots (normL R i k) m := by
  unfold normL
  rw [getD_row R i hi]
  exact Slots.set h ((scaleL_length _ _).trans (h.at hi).1) (scaleL_by (h.at hi).2 (Gy.ginv_lt (by_toNat (h.at hi).2 k)))
theorem Slots.sub {R : List (List Int)} {m f k : Nat} (h : Slots R m) (hf : f < R.length) : Slots (subL R f k) m := by
  have key : ∀ r ∈ subL R f k, r.length = m ∧ By r := by
    intro r hr
    obtain ⟨i, hi, rfl⟩ := List.mem_iff_getElem.1 hr
    have hi' : i < R.length := by unfold subL at hi; rw [subTo_length] at hi; exact hi
    have e : (subL R f k)[i] = subAt (R.getD f []) f k i R[i] := by
      have := subTo_at (R.getD f []) f k R.length i hi'
      rw [if_pos hi'] at this
      exact this
    rw [e, getD_row R f hf]
    unfold subAt
    obtain ⟨l1, b1⟩ := h.at hi'
    obtain ⟨l2, b2⟩ := h.at hf
    split
    · exact ⟨(plusL_length (by omega) _).trans l1, plusL_by b1 b2 (by_toNat b1 k) (by omega)⟩
    · exact ⟨l1, b1⟩
  exact ⟨fun r hr => (key r hr).1, fun r hr => (key r hr).2⟩
theorem subL_length (R : List (List Int)) (f k : Nat) : (subL R f k).length = R.length := subTo_length _ _ _ _ _
theorem redTo_inv {rows : List (List Int)} {m : Nat} (hS : Slots rows m) : ∀ k, Slots (redTo rows k).1 m ∧ (redTo rows k).1.length = rows.length ∧ (redTo rows k).2.length ≤ rows.length := by
  intro k
  induction k with
  | zero => exact ⟨hS, rfl, Nat.zero_le _⟩
  | succ k ih =>
    rw [redTo_succ]
    obtain ⟨h1, h2, h3⟩ := ih
    generalize redTo rows k = st at h1 h2 h3
    unfold redStep
    split
    · rename_i hlt
      have htop : st.2.length < st.1.length := by unfold firstNz at hlt; omega
      refine ⟨Slots.sub (Slots.norm (Slots.swap h1 htop hlt) (by rw [swapL_length]; exact htop)) (by rw [normL_length, swapL_length]; exact htop), ?_, ?_⟩
      · rw [subL_length, normL_length, swapL_length, h2]
      · rw [List.length_append]
        show st.2.length + 1 ≤ _
        omega
    · exact ⟨h1, h2, h3⟩
/-! ### the walk -/
theorem info_int : (Tryd.prog.info? 3).map (fun i => (i.zero, i.size, i.bytes)) = some (some (.int .i64 0), 1, 8) := by kernel_rfl
theorem swap_get {α : Type} {l : List α} {i j : Nat} {x y : α} (hi : l[i]? = some x) (hj : l[j]? = some y) : ((l.set i y).set j x)[i]? = some y := by
  have li := (List.getElem?_eq_some_iff.1 hi).1
  by_cases e : j = i
  · subst e
    rw [hi] at hj
    injection hj with hj
    subst hj
    simp [li]
  · rw [List.getElem?_set_ne e]
    simp [li]
structure SwapJ (base b n cap : Nat) (w0 : World) (ks : List Value) (R : List (List Int)) (i j : Nat) (ui uj : Value) (ri rj : List Int) (d e : Bool) (w : World) : Prop where
  bx : Bx base b w0 w
  ei : ElIs base w (some b) ui ri
  ej : ElIs base w (some b) uj rj
  h0 : d = false → RowsIs base w (.slice (some ⟨b, 0, none⟩) n cap) ks R
  h1 : d = true → e = false → RowsIs base w (.slice (some ⟨b, 0, none⟩) n cap) (ks.set i uj) (R.set i rj)
  h2 : e = true → RowsIs base w (.slice (some ⟨b, 0, none⟩) n cap) ((ks.set i uj).set j ui) ((R.set i rj).set j ri)
theorem SwapJ.first {base b n cap : Nat} {w0 w : World} {ks : List Value} {R : List (List Int)} {i j : Nat} {ui uj : Value} {ri rj : List Int} {d e : Bool} (h : SwapJ base b n cap w0 ks R i j ui uj ri rj d e w) (hd : d = false) (he : e = false) : SwapJ base b n cap w0 ks R i j ui uj ri rj true e (w.setCell ⟨b, i, none⟩ uj) :=
  ⟨h.bx.setCell (h.h0 hd).base _ _, h.ei.ext (Ext.set b w i _), h.ej.ext (Ext.set b w i _), fun h => (by cases h), fun _ _ => (h.h0 hd).set i _ _ h.ej, fun h2 => absurd (he.symm.trans h2) (by decide)⟩
theorem SwapJ.last {base b n cap : Nat} {w0 w : World} {ks : List Value} {R : List (List Int)} {i j : Nat} {ui uj : Value} {ri rj : List Int} {d e : Bool} (h : SwapJ base b n cap w0 ks R i j ui uj ri rj d e w) (hd : d = true) (he : e = false) : SwapJ base b n cap w0 ks R i j ui uj ri rj d true (w.setCell ⟨b, j, none⟩ ui) :=
  ⟨h.bx.setCell (h.h1 hd he).base _ _, h.ei.ext (Ext.set b w j _), h.ej.ext (Ext.set b w j _), fun h2 => absurd (hd.symm.trans h2) (by decide), fun _ h2 => (by cases h2), fun _ => (h.h1 hd he).set j _ _ h.ei⟩
theorem RowsIs.cell_at {base b n cap : Nat} {w : World} {ks : List Value} {R : List (List Int)} (h : RowsIs base w (.slice (some ⟨b, 0, none⟩) n cap) ks R) {j : Nat} (hj : j < R.length) : ∃ A l c, w.cell? ⟨b, j, none⟩ = some (.slice A l c) := by
  obtain ⟨A, c, _, _, k, _⟩ := h.at j hj
  exact ⟨A, _, c, k⟩
structure NormJ (base b n cap : Nat) (w0 : World) (ks : List Value) (R : List (List Int)) (i : Nat) (rn : List Int) (d : Bool) (w : World) : Prop where
  bx : Bx base b w0 w
  h0 : d = false → RowsIs base w (.slice (some ⟨b, 0, none⟩) n cap) ks R
  h1 : d = true → ∃ ks', RowsIs base w (.slice (some ⟨b, 0, none⟩) n cap) ks' (R.set i rn)
theorem NormJ.below {base b n cap : Nat} {w0 w w' : World} {ks : List Value} {R : List (List Int)} {i : Nat} {rn : List Int} {d : Bool} (h : NormJ base b n cap w0 ks R i rn d w) (hd : d = false) (hb : Below w.heap.size w w') (hbase : base ≤ w0.heap.size) : NormJ base b n cap w0 ks R i rn d w' :=
  ⟨h.bx.trans (Bx.of_below hb (Nat.le_trans hbase h.bx.size)), fun _ => (h.h0 hd).below hb, fun h2 => absurd (hd.symm.trans h2) (by decide)⟩
theorem NormJ.store {base b n cap : Nat} {w0 w : World} {ks : List Value} {R : List (List Int)} {i : Nat} {rn : List Int} {d : Bool} {u : Value} (h : NormJ base b n cap w0 ks R i rn d w) (hd : d = false) (hu : ElIs base w (some b) u rn) : NormJ base b n cap w0 ks R i rn true (w.setCell ⟨b, i, none⟩ u) :=
  ⟨h.bx.setCell (h.h0 hd).base _ _, fun h => (by cases h), fun _ => ⟨_, (h.h0 hd).set i _ _ hu⟩⟩
theorem inv_step {base b n cap c : Nat} {w0 w : World} {ks : List Value} {R : List (List Int)} {i : Nat} {rn : List Int} {d : Bool} (h : NormJ base b n cap w0 ks R i rn d w) (hd : d = false) (hbase : base ≤ w0.heap.size) (lc : c < 256) :
    Calls Tryd.prog 39 #[.int .u8 (c : Int)] w fun e w' => ∃ v, e = .returned v ∧ v = .int .u8 ((Gy.ginv c : Nat) : Int) ∧ NormJ base b n cap w0 ks R i rn d w' ∧ Ext b w w' :=
  (Inv.inv_calls c w lc).mono fun e w' ⟨he, hb⟩ => ⟨_, he, rfl, h.below hd hb hbase, Ext.of_below hb⟩
theorem scale_step {base b n cap m c cj : Nat} {w0 w : World} {ks : List Value} {R : List (List Int)} {i : Nat} {rj : List Int} {d : Bool} {A : Option Addr} (h : NormJ base b n cap w0 ks R i (scaleL rj c) d w) (hd : d = false) (hbase : base ≤ w0.heap.size) (lc : c < 256)
    (hr : ReadsInt w .u8 A m rj) (hby : By rj) (hm : m ≤ 100000) :
    Calls Tryd.prog 10 #[.slice A m cj, .int .u8 (c : Int)] w fun e w' => ∃ v, e = .returned v ∧ (∃ A' c', v = .slice A' m c' ∧ ElIs base w' (some b) (.slice A' m c') (scaleL rj c)) ∧ NormJ base b n cap w0 ks R i (scaleL rj c) d w' ∧ Ext b w w' := by
  refine (scale_calls A cj m c rj w hr hby lc hm).mono ?_
  rintro e w' ⟨A', c', rfl, hmr⟩
  have hl : (scaleL rj c).length = m := (scaleL_length _ _).trans hr.1
  exact ⟨_, rfl, ⟨A', c', rfl, made_el hmr hl (by omega) (Nat.le_trans hbase h.bx.size) (own_lt (h.h0 hd).own b rfl)⟩, h.below hd hmr.2 hbase, Ext.of_below hmr.2⟩
structure RedAt (base b n cap : Nat) (W : World) (R : List (List Int)) (P : List Nat) (v : Value) (w : World) : Prop where
  rows : ∃ ks', RowsIs base w (.slice (some ⟨b, 0, none⟩) n cap) ks' R
  pl : Kd.R (Kd.int .i64) 3 w W.heap.size (fun _ => True) v (P.map Int.ofNat)
  bx : Bx base b W w
theorem typed_ne {w : World} {b1 b2 e1 e2 s1 s2 n1 n2 k : Nat} {u v : Value} {xs ys : List Value} (h1 : w.ownsRow b1 e1 s1 u n1 xs) (h2 : w.ownsRow b2 e2 s2 v n2 ys) (hne : e1 ≠ e2) (hk : u.ownBlock = some k) : some k ≠ v.ownBlock := by
  intro hv
  obtain ⟨c1, g1⟩ := own_typed h1 k hk
  obtain ⟨c2, g2⟩ := own_typed h2 k hv.symm
  rw [g1] at g2
  injection g2 with g2
  injection g2 with _ g2 _
  exact hne g2
theorem RowsIs.grown {base b2 s n : Nat} {w w' : World} {v p : Value} {ks ps : List Value} {R : List (List Int)} (h : RowsIs base w v ks R) (hp : w.ownsRow b2 3 s p n ps) (hg : w.grownBy w' p.ownBlock) : RowsIs base w' v ks R := by
  refine ⟨own_move h.own (fun k hk => hg.block k (own_lt h.own k hk) (typed_ne h.own hp (by decide) hk)), h.len, fun i u row h1 h2 => ?_⟩
  obtain ⟨A, c, e, hc, hR, hn⟩ := h.el i u row h1 h2
  have hmv : ∀ k, u.ownBlock = some k → w'.heap[k]? = w.heap[k]? := fun k hk => hg.block k (own_lt hn.1 k hk) (typed_ne hn.1 hp (by decide) hk)
  exact ⟨A, c, e, hc, reads_move hR (fun ad e2 _ => hmv _ (by rw [e, e2]; rfl)), own_move hn.1 hmv, hn.2⟩
theorem pl_ext {b : Nat} {W w w' : World} {v : Value} {xs : List Int} (h : Kd.R (Kd.int .i64) 3 w W.heap.size (fun _ => True) v xs) (hb : b < W.heap.size) (hx : Ext b w w') : Kd.R (Kd.int .i64) 3 w' W.heap.size (fun _ => True) v xs := by
  have := Kd.R_bound h
  exact Kd.R_mono (Kd.R_move this (fun k hk => hx.2 k hk.2.2.1 (by have := hk.2.1; omega))) (fun _ _ => trivial)
set_option maxHeartbeats 4000000 in
set_option maxRecDepth 100000 in
theorem reduce_calls (base b n cap N m : Nat) (ks : List Value) (rows : List (List Int)) (W : World) (h : RowsIs base W (.slice (some ⟨b, 0, none⟩) n cap) ks rows) (hbase : base ≤ W.heap.size) (hS : Slots rows m) (hm : m ≤ 100000) (hrl : rows.length ≤ 100000) (hN : N ≤ m) :
    Calls Tryd.prog 27 #[.slice (some ⟨b, 0, none⟩) n cap, .int .i64 (N : Int)] W fun e w' => ∃ v, e = .returned v ∧ RedAt base b n cap W (redTo rows N).1 (redTo rows N).2 v w' := by
  obtain rfl : n = rows.length := h.n_eq
  have hbW : b < W.heap.size := own_lt h.own b rfl
  have H := Lib.hid h
  have HP := Lib.hid (And.intro hbase (And.intro hS (And.intro hm (And.intro hrl (And.intro hN hbW)))))
  clear h hbase hS hm hrl hN hbW
  go_enter Tryd.func27, Tryd.ntmps27
  go_wp2_with fail
  go_loopw [5, 10] (fun v5 v10 wr => ∃ k : Nat, k ≤ N ∧ v10 = .int .i64 (k : Int) ∧ Gy.Hd (RedAt base b rows.length cap W (redTo rows k).1 (redTo rows k).2 v5 wr)) (fun _ v10 _ => N - (intOf v10).toNat)
  case atStart => exact ⟨0, Nat.zero_le _, rfl, ⟨⟨ks, H.out⟩, Kd.R_nil _ _ _ _ _, Bx.refl _ _ _⟩⟩
  case round =>
    obtain ⟨wb, rfl⟩ : ∃ wb, wb = wr := ⟨wr, rfl⟩
    obtain ⟨k, hk, rfl, hx⟩ := hrel
    have HX := Lib.hid hx.out
    clear hx
    by_cases hlt : k < N
    · have t3 := j_lt hlt
      have HJ := Lib.hid hlt
      have HWJ := Lib.hid (up_wrap hlt (by have := HP.out.2.2.1; have := HP.out.2.2.2.2.1; omega))
      have hwj := HWJ.out
      have hend := end_row hlt
      have HNX := Lib.hid (redTo_succ rows k)
      have HIV := Lib.hid (redTo_inv HP.out.2.1 k)
      generalize redTo rows k = st at HX HNX HIV
      obtain ⟨R, P⟩ := st
      obtain ⟨A5, c5, e5⟩ := Kd.R_slice HX.out.pl
      rw [List.length_map] at e5
      subst e5
      have HKM := Lib.hid (show k < m by have := HP.out.2.2.2.2.1; omega)
      obtain ⟨ks0, hr0⟩ := HX.out.rows
      have HR := Lib.hid hr0
      clear hr0 hlt
      go_wp2_with fail
      go_loopw [8] (fun v8 wr => ∃ i : Nat, P.length ≤ i ∧ i ≤ rows.length ∧ v8 = .int .i64 (i : Int) ∧ Gy.Hd (∀ j, P.length ≤ j → j < i → (R.getD j []).getD k 0 = 0) ∧ wr = wb) (fun v8 _ => rows.length - (intOf v8).toNat)
      case atStart => exact ⟨P.length, Nat.le_refl _, HIV.out.2.2, rfl, ⟨fun j h1 h2 => by omega⟩, rfl⟩
      case round =>
        obtain ⟨i, h1, h2, rfl, hz, rfl⟩ := hrel
        have HZ := Lib.hid hz.out
        have HI := Lib.hid (And.intro h1 h2)
        clear hz
        by_cases hil : i < rows.length
        · have t4 := j_lt hil
          have hlR : i < R.length := by have := HIV.out.2.1; omega
          obtain ⟨Aj, cj, kj, lj, kc, fz, rdj⟩ := HR.out.at i hlR
          obtain ⟨mj, byj⟩ := HIV.out.1.at hlR
          have ei : R.getD i [] = R[i] := getD_row R i hlR
          rw [mj] at kj lj kc rdj
          have hej : ElIs base wr (some b) (.slice Aj m cj) R[i] := HR.out.el i _ _ kj (List.getElem?_eq_getElem hlR)
          generalize R[i] = rj at ei mj byj rdj hej
          obtain ⟨adj, rfl, hcj⟩ := rdj.2.2 (by have := HKM.out; omega)
          obtain ⟨c, hc, lc⟩ := byj.at k (by rw [mj]; exact HKM.out)
          have kcc := hcj k HKM.out
          have egd : rj.getD k 0 = (c : Int) := by rw [Dense.getD_at rj k (by rw [mj]; exact HKM.out), hc]
          rw [egd] at kcc
          have tk : (k : Int) < (m : Int) := by have := HKM.out; omega
          have HEJ := Lib.hid hej
          clear hej
          have HC := Lib.hid (And.intro ei (And.intro egd (And.intro mj (And.intro byj (And.intro lc (And.intro kj (And.intro lj rdj)))))))
          have HIL := Lib.hid hil
          have HWI := Lib.hid (up_wrap hil (by have := HP.out.2.2.2.1; omega))
          have hwi := HWI.out
          have hendi := end_row hil
          clear ei egd mj byj rdj hcj hc lj hlR h1 h2
          by_cases hc0 : c = 0
          · subst hc0
            clear lc
            go_wp2_with fail
            (try rw [HWI.out])
            exact ⟨⟨i + 1, by have := HI.out.1; omega, HIL.out, by norm_cast, ⟨fun j h1 h2 => by
              by_cases e : j = i
              · subst e; rw [HC.out.1, HC.out.2.1]; rfl
              · exact HZ.out j h1 (by omega)⟩, trivial⟩, hendi⟩
          · have t6 : ((c : Int) == 0) = false := by simp; omega
            have t7 : ((c : Int) != 0) = true := by simp; omega
            have t8 : ((i : Int) == (rows.length : Int)) = false := by simp; omega
            have HF := Lib.hid (first_eq (R := R) (at_ := k) (top := P.length) (i := i) HI.out.1 (by have := HIV.out.2.1; omega) HZ.out (fun _ => by rw [HC.out.1, HC.out.2.1]; omega))
            have htop : P.length < R.length := by have := HI.out.1; have := HIV.out.2.1; omega
            have htp : P.length < rows.length := by have := HI.out.1; omega
            obtain ⟨Ai, ci, ki, li, kc2, _, rdi⟩ := HR.out.at P.length htop
            obtain ⟨mi, byi⟩ := HIV.out.1.at htop
            have eti : R.getD P.length [] = R[P.length] := getD_row R P.length htop
            rw [mi] at ki li kc2 rdi
            have hei : ElIs base wr (some b) (.slice Ai m ci) R[P.length] := HR.out.el P.length _ _ ki (List.getElem?_eq_getElem htop)
            generalize R[P.length] = ri at eti mi byi rdi hei
            have HE := Lib.hid (And.intro hei (And.intro HEJ.out (And.intro eti (And.intro ki (And.intro htop htp)))))
            have HCI := Lib.hid (fun (w : World) (h : RowsIs base w (.slice (some ⟨b, 0, none⟩) rows.length cap) ks0 R) => h.cell ki)
            have HCJ := Lib.hid (fun (w : World) (h : RowsIs base w (.slice (some ⟨b, 0, none⟩) rows.length cap) ks0 R) => h.cell kj)
            have tt : (P.length : Int) < (rows.length : Int) := by omega
            have ti : (i : Int) < (rows.length : Int) := by omega
            clear hei eti ki htop htp li kc2 rdi mi byi
            go_wp2_with fail
            have HJ0 : Gy.Hd (SwapJ base b rows.length cap wr ks0 R P.length i (.slice Ai m ci) (.slice (some adj) m cj) ri rj false false wr.drew) := ⟨Bx.of_below (Gy.drew_below wr) (Nat.le_trans HP.out.1 HX.out.bx.size), HE.out.1.ext (Ext.of_below (Gy.drew_below wr)), HE.out.2.1.ext (Ext.of_below (Gy.drew_below wr)), fun _ => HR.out.below (Gy.drew_below wr), fun h => (by cases h), fun h => (by cases h)⟩
            refine Gy.FlowL.flow (by kernel_rfl) (fun i_ => List.getD [(fun v _ => v = .slice (some ⟨b, 0, none⟩) rows.length cap), (fun v _ => v = .int .i64 (P.length : Int)), (fun v _ => v = .slice (some ⟨b, 0, none⟩) rows.length cap), (fun v _ => v = .int .i64 (i : Int)), (fun v _ => v = .slice (some ⟨b, 0, none⟩) rows.length cap), (fun v _ => v = .int .i64 (i : Int)), (fun v _ => v = .pointer (some ⟨b, i, none⟩)), (fun v _ => v = .slice (some adj) m cj), (fun v _ => v = .slice (some ⟨b, 0, none⟩) rows.length cap), (fun v _ => v = .int .i64 (P.length : Int)), (fun v _ => v = .pointer (some ⟨b, P.length, none⟩)), (fun v _ => v = .slice Ai m ci), (fun v _ => v = .pointer (some ⟨b, P.length, none⟩)), (fun _ _ => True), (fun v _ => v = .pointer (some ⟨b, i, none⟩)), (fun _ _ => True)] i_ (fun _ _ => True)) (fun L w => SwapJ base b rows.length cap wr ks0 R P.length i (.slice Ai m ci) (.slice (some adj) m cj) ri rj (L 13) (L 15) w) (fun w w' => Ext b w w') (by kernel_rfl) HJ0.out (Gy.FlowL.mono_list [(fun v _ => v = .slice (some ⟨b, 0, none⟩) rows.length cap), (fun v _ => v = .int .i64 (P.length : Int)), (fun v _ => v = .slice (some ⟨b, 0, none⟩) rows.length cap), (fun v _ => v = .int .i64 (i : Int)), (fun v _ => v = .slice (some ⟨b, 0, none⟩) rows.length cap), (fun v _ => v = .int .i64 (i : Int)), (fun v _ => v = .pointer (some ⟨b, i, none⟩)), (fun v _ => v = .slice (some adj) m cj), (fun v _ => v = .slice (some ⟨b, 0, none⟩) rows.length cap), (fun v _ => v = .int .i64 (P.length : Int)), (fun v _ => v = .pointer (some ⟨b, P.length, none⟩)), (fun v _ => v = .slice Ai m ci), (fun v _ => v = .pointer (some ⟨b, P.length, none⟩)), (fun _ _ => True), (fun v _ => v = .pointer (some ⟨b, i, none⟩)), (fun _ _ => True)] ?_) (Gy.FlowL.of_allFrom ⟨?_, ?_, ?_, ?_, ?_, ?_, ?_, ?_, ?_, ?_, ?_, ?_, ?_, ?_, ?_, ?_, trivial⟩) ?_
            · exact ⟨fun v w w' h hb => h, fun v w w' h hb => h, fun v w w' h hb => h, fun v w w' h hb => h, fun v w w' h hb => h, fun v w w' h hb => h, fun v w w' h hb => h, fun v w w' h hb => h, fun v w w' h hb => h, fun v w w' h hb => h, fun v w w' h hb => h, fun v w w' h hb => h, fun v w w' h hb => h, fun v w w' h hb => h, fun v w w' h hb => h, fun v w w' h hb => h, trivial⟩
            · intro L a w hD
              have e0 : a.eval (.tmp 0) = .slice (some ⟨b, 0, none⟩) rows.length cap := hD.same.at_other 0 (by kernel_rfl)
              exact Gy.FlowL.step_move rfl rfl (Gy.FlowL.wanted_none rfl) e0 hD.J (Ext.refl b w)
            · intro L a w hD
              have e7 : a.eval (.tmp 7) = .int .i64 (P.length : Int) := hD.same.at_other 7 (by kernel_rfl)
              exact Gy.FlowL.step_move rfl rfl (Gy.FlowL.wanted_none rfl) e7 hD.J (Ext.refl b w)
            · intro L a w hD
              have e0 : a.eval (.tmp 0) = .slice (some ⟨b, 0, none⟩) rows.length cap := hD.same.at_other 0 (by kernel_rfl)
              exact Gy.FlowL.step_move rfl rfl (Gy.FlowL.wanted_none rfl) e0 hD.J (Ext.refl b w)
            · intro L a w hD
              have e8 : a.eval (.tmp 8) = .int .i64 (i : Int) := hD.same.at_other 8 (by kernel_rfl)
              exact Gy.FlowL.step_move rfl rfl (Gy.FlowL.wanted_none rfl) e8 hD.J (Ext.refl b w)
            · intro L a w hD
              have e0 : a.eval (.tmp 0) = .slice (some ⟨b, 0, none⟩) rows.length cap := hD.same.at_other 0 (by kernel_rfl)
              exact Gy.FlowL.step_move rfl rfl (Gy.FlowL.wanted_none rfl) e0 hD.J (Ext.refl b w)
            · intro L a w hD
              have e8 : a.eval (.tmp 8) = .int .i64 (i : Int) := hD.same.at_other 8 (by kernel_rfl)
              exact Gy.FlowL.step_move rfl rfl (Gy.FlowL.wanted_none rfl) e8 hD.J (Ext.refl b w)
            · intro L a w hD
              have e40 : a.eval (.tmp 40) = .slice (some ⟨b, 0, none⟩) rows.length cap := hD.at 4 (by kernel_rfl)
              have e41 : a.eval (.tmp 41) = .int .i64 (i : Int) := hD.at 5 (by kernel_rfl)
              have f40 := e40; simp only [Act.eval, Array.getD_eq_getD_getElem?] at f40
              have f41 := e41; simp only [Act.eval, Array.getD_eq_getD_getElem?] at f41
              refine Gy.FlowL.step_value rfl (Gy.FlowL.wanted_none rfl) (v := .pointer (some ⟨b, i, none⟩)) (w1 := w) ?_ rfl hD.J (Ext.refl b w)
              simp only [execOp, e40, e41]; go_simp
            · intro L a w hD
              have e42 : a.eval (.tmp 42) = .pointer (some ⟨b, i, none⟩) := hD.at 6 (by kernel_rfl)
              have hR := hD.J.h0 (hD.later 13 (by kernel_rfl))
              have k0 := HCJ.out w hR
              have f42 := e42; simp only [Act.eval, Array.getD_eq_getD_getElem?] at f42
              refine Gy.FlowL.step_value rfl (Gy.FlowL.wanted_none rfl) (v := .slice (some adj) m cj) (w1 := w) ?_ rfl hD.J (Ext.refl b w)
              simp only [execOp, e42]; go_simp
            · intro L a w hD
              have e0 : a.eval (.tmp 0) = .slice (some ⟨b, 0, none⟩) rows.length cap := hD.same.at_other 0 (by kernel_rfl)
              exact Gy.FlowL.step_move rfl rfl (Gy.FlowL.wanted_none rfl) e0 hD.J (Ext.refl b w)
            · intro L a w hD
              have e7 : a.eval (.tmp 7) = .int .i64 (P.length : Int) := hD.same.at_other 7 (by kernel_rfl)
              exact Gy.FlowL.step_move rfl rfl (Gy.FlowL.wanted_none rfl) e7 hD.J (Ext.refl b w)
            · intro L a w hD
              have e44 : a.eval (.tmp 44) = .slice (some ⟨b, 0, none⟩) rows.length cap := hD.at 8 (by kernel_rfl)
              have e45 : a.eval (.tmp 45) = .int .i64 (P.length : Int) := hD.at 9 (by kernel_rfl)
              have f44 := e44; simp only [Act.eval, Array.getD_eq_getD_getElem?] at f44
              have f45 := e45; simp only [Act.eval, Array.getD_eq_getD_getElem?] at f45
              refine Gy.FlowL.step_value rfl (Gy.FlowL.wanted_none rfl) (v := .pointer (some ⟨b, P.length, none⟩)) (w1 := w) ?_ rfl hD.J (Ext.refl b w)
              simp only [execOp, e44, e45]; go_simp
            · intro L a w hD
              have e46 : a.eval (.tmp 46) = .pointer (some ⟨b, P.length, none⟩) := hD.at 10 (by kernel_rfl)
              have hR := hD.J.h0 (hD.later 13 (by kernel_rfl))
              have k0 := HCI.out w hR
              have f46 := e46; simp only [Act.eval, Array.getD_eq_getD_getElem?] at f46
              refine Gy.FlowL.step_value rfl (Gy.FlowL.wanted_none rfl) (v := .slice Ai m ci) (w1 := w) ?_ rfl hD.J (Ext.refl b w)
              simp only [execOp, e46]; go_simp
            · intro L a w hD
              have e36 : a.eval (.tmp 36) = .slice (some ⟨b, 0, none⟩) rows.length cap := hD.at 0 (by kernel_rfl)
              have e37 : a.eval (.tmp 37) = .int .i64 (P.length : Int) := hD.at 1 (by kernel_rfl)
              have f36 := e36; simp only [Act.eval, Array.getD_eq_getD_getElem?] at f36
              have f37 := e37; simp only [Act.eval, Array.getD_eq_getD_getElem?] at f37
              refine Gy.FlowL.step_value rfl (Gy.FlowL.wanted_none rfl) (v := .pointer (some ⟨b, P.length, none⟩)) (w1 := w) ?_ rfl hD.J (Ext.refl b w)
              simp only [execOp, e36, e37]; go_simp
            · intro L a w hD
              have e48 : a.eval (.tmp 48) = .pointer (some ⟨b, P.length, none⟩) := hD.at 12 (by kernel_rfl)
              have e43 : a.eval (.tmp 43) = .slice (some adj) m cj := hD.at 7 (by kernel_rfl)
              have h15 := hD.later 15 (by kernel_rfl)
              have hR := hD.J.h0 hD.not
              have f48 := e48; simp only [Act.eval, Array.getD_eq_getD_getElem?] at f48
              have f43 := e43; simp only [Act.eval, Array.getD_eq_getD_getElem?] at f43
              have k0 := HCI.out w hR
              have f0 := hR.free P.length
              refine Gy.FlowL.step_skip (w1 := w.setCell ⟨b, P.length, none⟩ (.slice (some adj) m cj)) rfl (Gy.FlowL.wanted_none rfl) ?_ trivial (hD.J.first hD.not h15) (Ext.set b w _ _)
              simp only [execOp, e48, e43]; go_simp
            · intro L a w hD
              have e38 : a.eval (.tmp 38) = .slice (some ⟨b, 0, none⟩) rows.length cap := hD.at 2 (by kernel_rfl)
              have e39 : a.eval (.tmp 39) = .int .i64 (i : Int) := hD.at 3 (by kernel_rfl)
              have f38 := e38; simp only [Act.eval, Array.getD_eq_getD_getElem?] at f38
              have f39 := e39; simp only [Act.eval, Array.getD_eq_getD_getElem?] at f39
              refine Gy.FlowL.step_value rfl (Gy.FlowL.wanted_none rfl) (v := .pointer (some ⟨b, i, none⟩)) (w1 := w) ?_ rfl hD.J (Ext.refl b w)
              simp only [execOp, e38, e39]; go_simp
            · intro L a w hD
              have e49 : a.eval (.tmp 49) = .pointer (some ⟨b, i, none⟩) := hD.at 14 (by kernel_rfl)
              have e47 : a.eval (.tmp 47) = .slice Ai m ci := hD.at 11 (by kernel_rfl)
              have h13 := hD.waits 13 (by kernel_rfl)
              have hR := hD.J.h1 h13 hD.not
              have f49 := e49; simp only [Act.eval, Array.getD_eq_getD_getElem?] at f49
              have f47 := e47; simp only [Act.eval, Array.getD_eq_getD_getElem?] at f47
              obtain ⟨A0, l0, c0, k0⟩ := RowsIs.cell_at hR (j := i) (by rw [List.length_set]; have := HIV.out.2.1; have := HIL.out; omega)
              have f0 := hR.free i
              refine Gy.FlowL.step_skip (w1 := w.setCell ⟨b, i, none⟩ (.slice Ai m ci)) rfl (Gy.FlowL.wanted_none rfl) ?_ trivial (hD.J.last h13 hD.not) (Ext.set b w _ _)
              simp only [execOp, e49, e47]; go_simp
            · intro L a w hs hJ hL hv
              have hJ1 : SwapJ base b rows.length cap wr ks0 R P.length i (.slice Ai m ci) (.slice (some adj) m cj) ri rj true true w := by
                have g1 := hL 13 (by decide)
                have g2 := hL 15 (by decide)
                rw [g1, g2] at hJ
                exact hJ
              have hp := Gy.FlowL.same_puts (by kernel_rfl) hs
              generalize Gy.FlowL.At _ a = vs at hp
              have esw : (R.set P.length rj).set i ri = swapL R P.length i := by unfold swapL; rw [HC.out.1, HE.out.2.2.1]
              have hR1 := hJ1.h2 rfl
              rw [esw] at hR1
              have hk1 := swap_get (x := (.slice Ai m ci : Value)) (y := .slice (some adj) m cj) HE.out.2.2.2.1 HC.out.2.2.2.2.2.1
              generalize (ks0.set P.length (.slice (some adj) m cj)).set i (.slice Ai m ci) = ks1 at hR1 hk1
              have hlr : P.length < (swapL R P.length i).length := by rw [swapL_length]; exact HE.out.2.2.2.2.1
              have eat : (swapL R P.length i).getD P.length [] = rj := (swapL_at R P.length i HE.out.2.2.2.2.1 (by have := HIV.out.2.1; have := HIL.out; omega)).trans HC.out.1
              have HR1 := Lib.hid (And.intro hR1 (And.intro hk1 (And.intro hlr (And.intro eat hJ1.bx))))
              clear hv hs hJ hJ1 hL hR1 hlr eat esw
              have HCT := Lib.hid (fun (w : World) (h : RowsIs base w (.slice (some ⟨b, 0, none⟩) rows.length cap) ks1 (swapL R P.length i)) => h.cell hk1)
              have HRT := Lib.hid (fun (w : World) (h : RowsIs base w (.slice (some ⟨b, 0, none⟩) rows.length cap) ks1 (swapL R P.length i)) => h.reads HR1.out.2.2.1 hk1 ((getD_row _ _ HR1.out.2.2.1).symm.trans HR1.out.2.2.2.1))
              have HCB := Lib.hid (fun (w : World) (h : RowsIs base w (.slice (some ⟨b, 0, none⟩) rows.length cap) ks1 (swapL R P.length i)) => reads_cell (HRT.out w h) HKM.out HC.out.2.1)
              clear hk1
              subst hp
              simp only [Gy.FlowL.puts, Act.put, List.setIfInBounds_toArray, List.set_cons_zero, List.set_cons_succ]
              go_wp2_with fail
              obtain ⟨w1, rfl⟩ : ∃ w1, w1 = w := ⟨w, rfl⟩
              have hsz1 : base ≤ w1.heap.size := Nat.le_trans (Nat.le_trans HP.out.1 HX.out.bx.size) HR1.out.2.2.2.2.size
              have HS1 := Lib.hid hsz1
              clear hsz1
              have HK0 : Gy.Hd (NormJ base b rows.length cap w1 ks1 (swapL R P.length i) P.length (scaleL rj (Gy.ginv c)) false w1.drew) := ⟨Bx.of_below (Gy.drew_below w1) HS1.out, fun _ => HR1.out.1.below (Gy.drew_below w1), fun h => (by cases h)⟩
              refine Gy.FlowL.flow (by kernel_rfl) (fun i_ => List.getD [(fun v _ => v = .slice (some ⟨b, 0, none⟩) rows.length cap), (fun v _ => v = .int .i64 (P.length : Int)), (fun v _ => v = .slice (some ⟨b, 0, none⟩) rows.length cap), (fun v _ => v = .int .i64 (P.length : Int)), (fun v _ => v = .pointer (some ⟨b, P.length, none⟩)), (fun v _ => v = .slice (some adj) m cj), (fun v _ => v = .slice (some ⟨b, 0, none⟩) rows.length cap), (fun v _ => v = .int .i64 (P.length : Int)), (fun v _ => v = .pointer (some ⟨b, P.length, none⟩)), (fun v _ => v = .slice (some adj) m cj), (fun v _ => v = .int .i64 (k : Int)), (fun v _ => v = .pointer (some (adj.add k))), (fun v _ => v = .int .u8 (c : Int)), (fun v _ => v = .int .u8 ((Gy.ginv c : Nat) : Int)), (fun v w => ∃ A c', v = .slice A m c' ∧ ElIs base w (some b) (.slice A m c') (scaleL rj (Gy.ginv c))), (fun v _ => v = .pointer (some ⟨b, P.length, none⟩)), (fun _ _ => True)] i_ (fun _ _ => True)) (fun L w => NormJ base b rows.length cap w1 ks1 (swapL R P.length i) P.length (scaleL rj (Gy.ginv c)) (L 16) w) (fun w w' => Ext b w w') (by kernel_rfl) HK0.out (Gy.FlowL.mono_list [(fun v _ => v = .slice (some ⟨b, 0, none⟩) rows.length cap), (fun v _ => v = .int .i64 (P.length : Int)), (fun v _ => v = .slice (some ⟨b, 0, none⟩) rows.length cap), (fun v _ => v = .int .i64 (P.length : Int)), (fun v _ => v = .pointer (some ⟨b, P.length, none⟩)), (fun v _ => v = .slice (some adj) m cj), (fun v _ => v = .slice (some ⟨b, 0, none⟩) rows.length cap), (fun v _ => v = .int .i64 (P.length : Int)), (fun v _ => v = .pointer (some ⟨b, P.length, none⟩)), (fun v _ => v = .slice (some adj) m cj), (fun v _ => v = .int .i64 (k : Int)), (fun v _ => v = .pointer (some (adj.add k))), (fun v _ => v = .int .u8 (c : Int)), (fun v _ => v = .int .u8 ((Gy.ginv c : Nat) : Int)), (fun v w => ∃ A c', v = .slice A m c' ∧ ElIs base w (some b) (.slice A m c') (scaleL rj (Gy.ginv c))), (fun v _ => v = .pointer (some ⟨b, P.length, none⟩)), (fun _ _ => True)] ?_) (Gy.FlowL.of_allFrom ⟨?_, ?_, ?_, ?_, ?_, ?_, ?_, ?_, ?_, ?_, ?_, ?_, ?_, ?_, ?_, ?_, ?_, trivial⟩) ?_
              · exact ⟨fun v w w' h hb => h, fun v w w' h hb => h, fun v w w' h hb => h, fun v w w' h hb => h, fun v w w' h hb => h, fun v w w' h hb => h, fun v w w' h hb => h, fun v w w' h hb => h, fun v w w' h hb => h, fun v w w' h hb => h, fun v w w' h hb => h, fun v w w' h hb => h, fun v w w' h hb => h, fun v w w' h hb => h, fun v w w' ⟨A, c, e, h⟩ hb => ⟨A, c, e, h.ext hb⟩, fun v w w' h hb => h, fun v w w' h hb => h, trivial⟩
              · intro L a w hD
                have e0 : a.eval (.tmp 0) = .slice (some ⟨b, 0, none⟩) rows.length cap := hD.same.at_other 0 (by kernel_rfl)
                exact Gy.FlowL.step_move rfl rfl (Gy.FlowL.wanted_none rfl) e0 hD.J (Ext.refl b w)
              · intro L a w hD
                have e7 : a.eval (.tmp 7) = .int .i64 (P.length : Int) := hD.same.at_other 7 (by kernel_rfl)
                exact Gy.FlowL.step_move rfl rfl (Gy.FlowL.wanted_none rfl) e7 hD.J (Ext.refl b w)
              · intro L a w hD
                have e0 : a.eval (.tmp 0) = .slice (some ⟨b, 0, none⟩) rows.length cap := hD.same.at_other 0 (by kernel_rfl)
                exact Gy.FlowL.step_move rfl rfl (Gy.FlowL.wanted_none rfl) e0 hD.J (Ext.refl b w)
              · intro L a w hD
                have e7 : a.eval (.tmp 7) = .int .i64 (P.length : Int) := hD.same.at_other 7 (by kernel_rfl)
                exact Gy.FlowL.step_move rfl rfl (Gy.FlowL.wanted_none rfl) e7 hD.J (Ext.refl b w)
              · intro L a w hD
                have e52 : a.eval (.tmp 52) = .slice (some ⟨b, 0, none⟩) rows.length cap := hD.at 2 (by kernel_rfl)
                have e53 : a.eval (.tmp 53) = .int .i64 (P.length : Int) := hD.at 3 (by kernel_rfl)
                have f52 := e52; simp only [Act.eval, Array.getD_eq_getD_getElem?] at f52
                have f53 := e53; simp only [Act.eval, Array.getD_eq_getD_getElem?] at f53
                refine Gy.FlowL.step_value rfl (Gy.FlowL.wanted_none rfl) (v := .pointer (some ⟨b, P.length, none⟩)) (w1 := w) ?_ rfl hD.J (Ext.refl b w)
                simp only [execOp, e52, e53]; go_simp
              · intro L a w hD
                have e54 : a.eval (.tmp 54) = .pointer (some ⟨b, P.length, none⟩) := hD.at 4 (by kernel_rfl)
                have hR := hD.J.h0 (hD.later 16 (by kernel_rfl))
                have k0 := HCT.out w hR
                have f54 := e54; simp only [Act.eval, Array.getD_eq_getD_getElem?] at f54
                refine Gy.FlowL.step_value rfl (Gy.FlowL.wanted_none rfl) (v := .slice (some adj) m cj) (w1 := w) ?_ rfl hD.J (Ext.refl b w)
                simp only [execOp, e54]; go_simp
              · intro L a w hD
                have e0 : a.eval (.tmp 0) = .slice (some ⟨b, 0, none⟩) rows.length cap := hD.same.at_other 0 (by kernel_rfl)
                exact Gy.FlowL.step_move rfl rfl (Gy.FlowL.wanted_none rfl) e0 hD.J (Ext.refl b w)
              · intro L a w hD
                have e7 : a.eval (.tmp 7) = .int .i64 (P.length : Int) := hD.same.at_other 7 (by kernel_rfl)
                exact Gy.FlowL.step_move rfl rfl (Gy.FlowL.wanted_none rfl) e7 hD.J (Ext.refl b w)
              · intro L a w hD
                have e56 : a.eval (.tmp 56) = .slice (some ⟨b, 0, none⟩) rows.length cap := hD.at 6 (by kernel_rfl)
                have e57 : a.eval (.tmp 57) = .int .i64 (P.length : Int) := hD.at 7 (by kernel_rfl)
                have f56 := e56; simp only [Act.eval, Array.getD_eq_getD_getElem?] at f56
                have f57 := e57; simp only [Act.eval, Array.getD_eq_getD_getElem?] at f57
                refine Gy.FlowL.step_value rfl (Gy.FlowL.wanted_none rfl) (v := .pointer (some ⟨b, P.length, none⟩)) (w1 := w) ?_ rfl hD.J (Ext.refl b w)
                simp only [execOp, e56, e57]; go_simp
              · intro L a w hD
                have e58 : a.eval (.tmp 58) = .pointer (some ⟨b, P.length, none⟩) := hD.at 8 (by kernel_rfl)
                have hR := hD.J.h0 (hD.later 16 (by kernel_rfl))
                have k0 := HCT.out w hR
                have f58 := e58; simp only [Act.eval, Array.getD_eq_getD_getElem?] at f58
                refine Gy.FlowL.step_value rfl (Gy.FlowL.wanted_none rfl) (v := .slice (some adj) m cj) (w1 := w) ?_ rfl hD.J (Ext.refl b w)
                simp only [execOp, e58]; go_simp
              · intro L a w hD
                have e6 : a.eval (.tmp 6) = .int .i64 (k : Int) := hD.same.at_other 6 (by kernel_rfl)
                exact Gy.FlowL.step_move rfl rfl (Gy.FlowL.wanted_none rfl) e6 hD.J (Ext.refl b w)
              · intro L a w hD
                have e59 : a.eval (.tmp 59) = .slice (some adj) m cj := hD.at 9 (by kernel_rfl)
                have e60 : a.eval (.tmp 60) = .int .i64 (k : Int) := hD.at 10 (by kernel_rfl)
                have f59 := e59; simp only [Act.eval, Array.getD_eq_getD_getElem?] at f59
                have f60 := e60; simp only [Act.eval, Array.getD_eq_getD_getElem?] at f60
                refine Gy.FlowL.step_value rfl (Gy.FlowL.wanted_none rfl) (v := .pointer (some (adj.add k))) (w1 := w) ?_ rfl hD.J (Ext.refl b w)
                simp only [execOp, e59, e60]; go_simp
              · intro L a w hD
                have e61 : a.eval (.tmp 61) = .pointer (some (adj.add k)) := hD.at 11 (by kernel_rfl)
                have hR := hD.J.h0 (hD.later 16 (by kernel_rfl))
                have k0 := HCB.out w hR
                have f61 := e61; simp only [Act.eval, Array.getD_eq_getD_getElem?] at f61
                refine Gy.FlowL.step_value rfl (Gy.FlowL.wanted_none rfl) (v := .int .u8 (c : Int)) (w1 := w) ?_ rfl hD.J (Ext.refl b w)
                simp only [execOp, e61]; go_simp
              · intro L a w hD
                have e62 : a.eval (.tmp 62) = .int .u8 (c : Int) := hD.at 12 (by kernel_rfl)
                have h16 := hD.later 16 (by kernel_rfl)
                refine Gy.FlowL.step_call (args := #[.int .u8 (c : Int)]) rfl (Gy.FlowL.wanted_none rfl) Tryd.func39 (by kernel_rfl) (by kernel_rfl) rfl (by simp only [List.map_toArray, List.map_cons, List.map_nil, e62]) ?_
                exact inv_step hD.J h16 HS1.out HC.out.2.2.2.2.1
              · intro L a w hD
                have e55 : a.eval (.tmp 55) = .slice (some adj) m cj := hD.at 5 (by kernel_rfl)
                have e63 : a.eval (.tmp 63) = .int .u8 ((Gy.ginv c : Nat) : Int) := hD.at 13 (by kernel_rfl)
                have h16 := hD.later 16 (by kernel_rfl)
                refine Gy.FlowL.step_call (args := #[.slice (some adj) m cj, .int .u8 ((Gy.ginv c : Nat) : Int)]) rfl (Gy.FlowL.wanted_none rfl) Tryd.func10 (by kernel_rfl) (by kernel_rfl) rfl (by simp only [List.map_toArray, List.map_cons, List.map_nil, e55, e63]) ?_
                exact scale_step hD.J h16 HS1.out (Gy.ginv_lt HC.out.2.2.2.2.1) (HRT.out w (hD.J.h0 h16)) HC.out.2.2.2.1 HP.out.2.2.1
              · intro L a w hD
                have e50 : a.eval (.tmp 50) = .slice (some ⟨b, 0, none⟩) rows.length cap := hD.at 0 (by kernel_rfl)
                have e51 : a.eval (.tmp 51) = .int .i64 (P.length : Int) := hD.at 1 (by kernel_rfl)
                have f50 := e50; simp only [Act.eval, Array.getD_eq_getD_getElem?] at f50
                have f51 := e51; simp only [Act.eval, Array.getD_eq_getD_getElem?] at f51
                refine Gy.FlowL.step_value rfl (Gy.FlowL.wanted_none rfl) (v := .pointer (some ⟨b, P.length, none⟩)) (w1 := w) ?_ rfl hD.J (Ext.refl b w)
                simp only [execOp, e50, e51]; go_simp
              · intro L a w hD
                have e65 : a.eval (.tmp 65) = .pointer (some ⟨b, P.length, none⟩) := hD.at 15 (by kernel_rfl)
                have q64 : (fun v w => ∃ A c', v = .slice A m c' ∧ ElIs base w (some b) (.slice A m c') (scaleL rj (Gy.ginv c))) (a.eval (.tmp 64)) w := hD.at 14 (by kernel_rfl)
                obtain ⟨A64, c64, e64, r64⟩ := q64
                have hR := hD.J.h0 hD.not
                have f65 := e65; simp only [Act.eval, Array.getD_eq_getD_getElem?] at f65
                have f64 := e64; simp only [Act.eval, Array.getD_eq_getD_getElem?] at f64
                have k0 := HCT.out w hR
                have f0 := hR.free P.length
                refine Gy.FlowL.step_skip (w1 := w.setCell ⟨b, P.length, none⟩ (.slice A64 m c64)) rfl (Gy.FlowL.wanted_none rfl) ?_ trivial (hD.J.store hD.not r64) (Ext.set b w _ _)
                simp only [execOp, e65, e64]; go_simp
              · intro L a w hs hJ hL hv
                have hN1 : NormJ base b rows.length cap w1 ks1 (swapL R P.length i) P.length (scaleL rj (Gy.ginv c)) true w := by
                  have g1 := hL 16 (by decide)
                  rw [g1] at hJ
                  exact hJ
                have hp := Gy.FlowL.same_puts (by kernel_rfl) hs
                generalize Gy.FlowL.At _ a = vs2 at hp
                obtain ⟨ks2, hR2⟩ := hN1.h1 rfl
                have en : (swapL R P.length i).set P.length (scaleL rj (Gy.ginv c)) = normL (swapL R P.length i) P.length k := by unfold normL; rw [HR1.out.2.2.2.1, HC.out.2.1, Int.toNat_natCast]
                rw [en] at hR2
                have hSl : Slots (normL (swapL R P.length i) P.length k) m := Slots.norm (Slots.swap HIV.out.1 HE.out.2.2.2.2.1 (by have := HIV.out.2.1; have := HIL.out; omega)) HR1.out.2.2.1
                have hl2 : (normL (swapL R P.length i) P.length k).length = rows.length := by rw [normL_length, swapL_length]; exact HIV.out.2.1
                have hbx : Bx base b wr w := HR1.out.2.2.2.2.trans hN1.bx
                have hsub := sub_calls base b rows.length cap P.length k m ks2 _ w hR2 (Nat.le_trans HS1.out hN1.bx.size) hSl HP.out.2.2.1 (by rw [hl2]; exact HE.out.2.2.2.2.2) (by rw [hl2]; exact HP.out.2.2.2.1) HKM.out
                have HSUB := Lib.hid hsub
                have HBX := Lib.hid hbx
                clear hv hs hJ hN1 hL hR2 en hSl hl2 hsub hbx
                subst hp
                simp only [Gy.FlowL.puts, Act.put, List.setIfInBounds_toArray, List.set_cons_zero, List.set_cons_succ]
                go_wp2_with (first
                  | (go_at_call 40; (with_reducible refine HSUB.out.mono ?_); rintro e w3 ⟨rfl, h3, b3⟩; have H3 := Lib.hid (And.intro h3 (HBX.out.trans b3)); clear h3 b3)
                  | (at_builtin; refine Kd.R_append (Kd.int .i64) (w0 := w3) W.heap.size rfl (.tmp 70) (.tmp 72) 49 3 (.int .i64 0) 8 rfl Tryd.underlying49 info_int rfl (by decide) (by omega) (.slice A5 P.length c5) (P.map Int.ofNat) (k : Int) [.int .i64 (k : Int)] (fun _ => True) (fun _ => False) rfl rfl ?aP (fun _ h => h.elim) (fun _ _ => trivial) (pl_ext HX.out.pl HP.out.2.2.2.2.2 H3.out.2.ext) (Below.refl _ _) ?aS ?aL ?_
                     (case aP => rfl)
                     (case aS => exact Nat.le_trans HX.out.bx.size H3.out.2.size)
                     (case aL => have := HIV.out.2.2; have := HP.out.2.2.2.1; rw [List.length_map]; omega)
                     intro v5 w5 hr5 hb5 hg5 _
                     have H5 := Lib.hid (And.intro hr5 (And.intro hb5 hg5))
                     clear hr5 hb5 hg5))
                (try rw [HWJ.out])
                refine ⟨⟨k + 1, HJ.out, by norm_cast, ⟨?_⟩⟩, hend⟩
                have est : redStep (R, P) k = (subL (normL (swapL R P.length i) P.length k) P.length k, P ++ [k]) := by
                  unfold redStep
                  simp only [HF.out]
                  rw [if_pos (by have := HIV.out.2.1; have := HIL.out; omega)]
                rw [HNX.out, est]
                obtain ⟨ks3, hR3⟩ := H3.out.1
                have hbw := HX.out.bx.trans H3.out.2
                obtain ⟨inner, hin⟩ := Kd.R_own (pl_ext HX.out.pl HP.out.2.2.2.2.2 H3.out.2.ext)
                refine ⟨⟨ks3, RowsIs.grown hR3 hin H5.out.2.2⟩, ?_, hbw.trans_at H5.out.2.1 H5.out.2.2.size HP.out.1⟩
                show Kd.R (Kd.int .i64) 3 _ _ _ _ ((P ++ [k]).map Int.ofNat)
                rw [List.map_append]
                exact H5.out.1
        · have hie : i = rows.length := by omega
          subst hie
          have t4 : decide ((rows.length : Int) < (rows.length : Int)) = false := by simp
          have t8 : ((rows.length : Int) == (rows.length : Int)) = true := by simp
          clear h1 h2 hil
          go_wp2_with fail
          (try rw [HWJ.out])
          refine ⟨⟨k + 1, HJ.out, by norm_cast, ⟨?_⟩⟩, hend⟩
          have hf := first_eq (R := R) (at_ := k) (top := P.length) (i := rows.length) HIV.out.2.2 (by rw [HIV.out.2.1]; exact Nat.le_refl _) HZ.out (fun h => absurd h (by have := HIV.out.2.1; omega))
          have est : redStep (R, P) k = (R, P) := by
            unfold redStep
            simp only [hf]
            rw [if_neg (by have := HIV.out.2.1; omega)]
          rw [HNX.out, est]
          exact HX.out
    · obtain rfl : k = N := Nat.le_antisymm hk (Nat.le_of_not_lt hlt)
      have t3 : decide ((k : Int) < (k : Int)) = false := by simp
      go_wp2_with fail
      go_ret
      exact ⟨_, rfl, HX.out⟩
end Go.Proofs.YtcmigmldecacpaaDoor.Reduce
/- Machine-made by a program of this claim: functions of the Go program as Lean functions, and that its calls do what these say. Lean checks it. -/
namespace Go.Proofs.YtcmigmldecacpaaDoor.QFilled
open Go.RowKit Go.Proofs.YtcmigmldecacpaaDoorW.PrintWords Go.Proofs.YtcmigmldecacpaaDoorW.PrintLast Go.Proofs.YtcmigmldecacpaaDoorW.PrintMore
attribute [local go_sem] max2_int min2_int max_two min_two max_three min_three max_four min_four   -- for this text's walks alone
set_option linter.unusedVariables false
set_option linter.unusedSimpArgs false



def errW : Option Int → Value
  | none => .nilIface
  | some c => .iface 0 (.int .i64 c)
theorem errW_none : errW none = .nilIface := rfl
theorem errW_some (c : Int) : errW (some c) = .iface 0 (.int .i64 c) := rfl

theorem info5 : (Tryd.prog.info? 5).map (fun i => (i.zero, i.size, i.bytes)) = some (some (.int .u8 0), 1, 1) := by kernel_rfl
theorem info22 : (Tryd.prog.info? 22).map (fun i => (i.zero, i.size, i.bytes)) = some (some (.slice none 0 0), 1, 24) := by kernel_rfl
-- the values' own types
def rd_L1 (xs : List (List Int)) (i : Int) : (List Int) := xs.getD i.toNat ([] : List Int)
theorem at_L1 {w : World} {A : Option Addr} {n : Nat} {xs : List (List Int)} (h : Kd.C (Kd.slice 5 (Kd.int .u8)) w A n xs) (i : Int) (h0 : 0 ≤ i) (h1 : i < n) : ∃ ad A0 c0, A = some ad ∧ w.cell? (ad.add i.toNat) = some (.slice A0 (rd_L1 xs i).length c0) ∧ (rd_L1 xs i).length ≤ c0 ∧ (Kd.int .u8).C w A0 (rd_L1 xs i).length (rd_L1 xs i) := by
  obtain ⟨ad, c, e, _, hK, hc0⟩ := Kd.C_get h ([] : List Int) i h0 h1
  have hc : ∀ j u, c[j]? = some u → w.cell? (ad.add (i.toNat * 1 + j)) = some u := hc0
  obtain ⟨A0, c0, rfl, l0, g0⟩ := hK
  exact ⟨ad, A0, c0, e, by have hq := hc 0 _ rfl; rwa [Nat.mul_one, Nat.add_zero] at hq, l0, g0⟩

end Go.Proofs.YtcmigmldecacpaaDoor.QFilled
/- Machine-made by a program of this claim: functions of the Go program as Lean functions, and that its calls do what these say. Lean checks it. -/
namespace Go.Proofs.YtcmigmldecacpaaDoor.QFilled
open Go.RowKit Go.Proofs.YtcmigmldecacpaaDoorW.PrintWords Go.Proofs.YtcmigmldecacpaaDoorW.PrintLast Go.Proofs.YtcmigmldecacpaaDoorW.PrintMore Go.Proofs.YtcmigmldecacpaaDoor.Giv
attribute [local go_sem] max2_int min2_int max_two min_two max_three min_three max_four min_four   -- for this text's walks alone
set_option linter.unusedVariables false
set_option linter.unusedSimpArgs false

-- given: function 21 (bytes_Clone)

/-! ### dense_filled: function 37 -/
mutual
def dense_filled.l0 : Nat → List (List Int) → Int → List (List Int) → Int → Int → Option ((List (List Int)))
  | 0, _, _, _, _, _ => none
  | k + 1, x0, x3, x9, x10, x11 => if x11 < x10 then (if 0 ≤ x11 then (if x11 < (x9.length : Int) then (dense_filled.l0 k x0 (mx x3 ((rd_L1 x9 x11).length : Int)) x9 x10 (wrap64 (x11 + 1))) else (none)) else (none)) else (dense_filled.l1 k x3 ([] : List (List Int)) x0 (x0.length : Int) 0)
def dense_filled.l1 : Nat → Int → List (List Int) → List (List Int) → Int → Int → Option ((List (List Int)))
  | 0, _, _, _, _, _ => none
  | k + 1, x3, x6, x20, x21, x22 => if x22 < x21 then (if 0 ≤ x22 then (if x22 < (x20.length : Int) then ((bytes_Clone.f (rd_L1 x20 x22)).bind fun t103 => (if 0 ≤ (wrap64 (x3 - ((rd_L1 x20 x22).length : Int))) then (if t103.length + (wrap64 (x3 - ((rd_L1 x20 x22).length : Int)) : Int).toNat < 140737488355328 then (if x6.length < 5864062014805 then (dense_filled.l1 k x3 (x6 ++ [(t103 ++ List.replicate (wrap64 (x3 - ((rd_L1 x20 x22).length : Int)) : Int).toNat 0)]) x20 x21 (wrap64 (x22 + 1))) else (none)) else (none)) else (none))) else (none)) else (none)) else (some x6)
end
def dense_filled.f (k : Nat) (l0 : List (List Int)) : Option ((List (List Int))) := dense_filled.l0 k l0 0 l0 (l0.length : Int) 0
theorem dense_filled.mono_l : ∀ k, (∀ y0 y1 y2 y3 y4, LeO (dense_filled.l0 k y0 y1 y2 y3 y4) (dense_filled.l0 (k + 1) y0 y1 y2 y3 y4)) ∧ (∀ y0 y1 y2 y3 y4, LeO (dense_filled.l1 k y0 y1 y2 y3 y4) (dense_filled.l1 (k + 1) y0 y1 y2 y3 y4))
  | 0 => ⟨fun _ _ _ _ _ r h => by simp [dense_filled.l0] at h, fun _ _ _ _ _ r h => by simp [dense_filled.l1] at h⟩
  | k + 1 => by
    obtain ⟨ih0, ih1⟩ := dense_filled.mono_l k
    refine ⟨?_, ?_⟩
    · intro y0 y1 y2 y3 y4
      unfold dense_filled.l0
      repeat' first
      | (with_reducible exact ih0 _ _ _ _ _)
      | (with_reducible exact ih1 _ _ _ _ _)
      | (with_reducible exact LeO.refl _)
      | (with_reducible exact LeO.none _)
      | (with_reducible refine LeO.ite ?_ ?_)
      | (with_reducible refine LeO.bind ?_ (fun _ => ?_))
      | exact ih0 _ _ _ _ _
      | exact ih1 _ _ _ _ _
      | exact LeO.none _
      | refine LeO.ite ?_ ?_
      | refine LeO.bind ?_ (fun _ => ?_)
    · intro y0 y1 y2 y3 y4
      unfold dense_filled.l1
      repeat' first
      | (with_reducible exact ih0 _ _ _ _ _)
      | (with_reducible exact ih1 _ _ _ _ _)
      | (with_reducible exact LeO.refl _)
      | (with_reducible exact LeO.none _)
      | (with_reducible refine LeO.ite ?_ ?_)
      | (with_reducible refine LeO.bind ?_ (fun _ => ?_))
      | exact ih0 _ _ _ _ _
      | exact ih1 _ _ _ _ _
      | exact LeO.none _
      | refine LeO.ite ?_ ?_
      | refine LeO.bind ?_ (fun _ => ?_)
theorem dense_filled.mono : ∀ a0 k, LeO (dense_filled.f k a0) (dense_filled.f (k + 1) a0) := by
  intro a0 k
  obtain ⟨ih0, ih1⟩ := dense_filled.mono_l k
  unfold dense_filled.f
  repeat' first
      | (with_reducible exact ih0 _ _ _ _ _)
      | (with_reducible exact ih1 _ _ _ _ _)
      | (with_reducible exact LeO.refl _)
      | (with_reducible exact LeO.none _)
      | (with_reducible refine LeO.ite ?_ ?_)
      | (with_reducible refine LeO.bind ?_ (fun _ => ?_))
      | exact ih0 _ _ _ _ _
      | exact ih1 _ _ _ _ _
      | exact LeO.none _
      | refine LeO.ite ?_ ?_
      | refine LeO.bind ?_ (fun _ => ?_)
set_option maxHeartbeats 8000000 in
set_option maxRecDepth 100000 in
theorem dense_filled.calls (k : Nat) (A0 : Option Addr) (c0 : Nat) (l0 : List (List Int)) (r : List (List Int)) (w : World) (hr0 : Kd.C (Kd.slice 5 (Kd.int .u8)) w A0 l0.length l0) (hc0 : l0.length ≤ c0) (h : dense_filled.f k l0 = some r) :
    Calls Tryd.prog 37 #[.slice A0 l0.length c0] w fun e w' => ∃ v0_ : Value, e = .returned (v0_) ∧ Kd.S (Kd.slice 5 (Kd.int .u8)) 22 w' w.heap.size (fun _ => True) v0_ r ∧ Below w.heap.size w w' := by
  have HR0 := Aside0.mk hr0
  have HC0 := Aside0.mk hc0
  clear hr0 hc0
  have HB := Aside0.mk (Below.refl w.heap.size w)
  have H : (dense_filled.l0 k l0 0 l0 (l0.length : Int) 0) = some r := h
  clear h
  have H' := Aside0.mk H
  clear H
  go_enter Tryd.func37, Tryd.ntmps37
  go_wp2
  go_loopg [3, 11] k (fun kq v3 v11 w' => ∃ (x3_1 : Int) (x11_1 : Int), v3 = .int .i64 x3_1 ∧ v11 = .int .i64 x11_1 ∧ Aside0 (dense_filled.l0 kq l0 x3_1 l0 (l0.length : Int) x11_1 = some r) ∧ Aside0 (kq ≤ k) ∧ Aside0 (Below w.heap.size w w'))
  case atStart => exact ⟨(0), (0), (by first | rfl | (simp; done) | (simp [*]; done)), (by first | rfl | (simp; done) | (simp [*]; done)), H', ⟨Nat.le_refl _⟩, ⟨by repeat (first | (with_reducible first | exact HB.out | apply below_alloc | apply pw_below_drewN | apply below_drew1) | exact HB.out)⟩⟩
  case round =>
    clear H'
    obtain ⟨x3_1, x11_1, rfl, rfl, HA, HK1, HB⟩ := hrel
    cases gk with
    | zero => exact absurd HA.out (by simp [dense_filled.l0])
    | succ k1 =>
      have H := HA.out
      clear HA
      simp only [dense_filled.l0] at H
      by_cases c2 : x11_1 < (l0.length : Int)
      · rw [if_pos c2] at H
        have c2b0 : decide (x11_1 < (l0.length : Int)) = true := decide_eq_true c2
        clear c2
        by_cases c3 : 0 ≤ x11_1
        · rw [if_pos c3] at H
          have c3b0 : decide (0 ≤ x11_1) = true := decide_eq_true c3
          clear c3
          by_cases c4 : x11_1 < (l0.length : Int)
          · rw [if_pos c4] at H
            have c4b0 : decide (x11_1 < (l0.length : Int)) = true := decide_eq_true c4
            clear c4
            obtain ⟨ji5, hji5⟩ : ∃ j_ : Int, (mx x3_1 ((rd_L1 l0 x11_1).length : Int)) = j_ := ⟨_, rfl⟩
            replace H : (dense_filled.l0 k1 l0 ji5 l0 (l0.length : Int) (wrap64 (x11_1 + 1))) = some r := by first | (rw [hji5] at H; exact H) | (simp only [hji5] at H ⊢; exact H)
            have hji5_ : (if x3_1 < ((rd_L1 l0 x11_1).length : Int) then ((rd_L1 l0 x11_1).length : Int) else x3_1) = ji5 := hji5
            have H' := Aside0.mk H
            clear H
            have p101 : 0 ≤ (x11_1 : Int) := of_decide_eq_true (by first | (with_reducible assumption) | assumption)
            have q101 : x11_1 < (l0.length : Int) := of_decide_eq_true (by first | (with_reducible assumption) | assumption)
            obtain ⟨ad101, A101_0, c101_0, e101, hx101_0, hl101_0, hi101_0⟩ := at_L1 HR0.out x11_1 p101 q101
            cases e101
            (first | (replace hx101_0 := (HB.out.cell (World.block_lt_of_cell? w _ hx101_0)).trans hx101_0) | skip)
            have HR101_0 := Aside0.mk hi101_0
            have HC101_0 := Aside0.mk hl101_0
            clear hi101_0 hl101_0
            replace p101 := eq_true p101
            replace q101 := eq_true q101
            go_wp2
            go_roundg k1
            case measure => have := HK1.out; omega
            case rel => exact ⟨(ji5), (wrap64 (x11_1 + 1)), (by first | rfl | (simp; done) | (simp only [← hji5] <;> (first | rfl | simp)) | (simp [*]; done)), (by first | rfl | (simp; done) | (simp [*]; done)), H', ⟨by have := HK1.out; omega⟩, ⟨by repeat (first | (with_reducible first | exact HB.out | apply below_alloc | apply pw_below_drewN | apply below_drew1) | exact HB.out)⟩⟩
          · rw [if_neg c4] at H
            exact absurd H (by simp)
        · rw [if_neg c3] at H
          exact absurd H (by simp)
      · rw [if_neg c2] at H
        have c2b0 : decide (x11_1 < (l0.length : Int)) = false := decide_eq_false c2
        clear c2
        have H' := Aside0.mk H
        clear H
        go_wp2
        go_loopg [6, 22] k1 (fun kq v6 v22 w' => ∃ (x6_2 : List (List Int)) (x22_2 : Int), v22 = .int .i64 x22_2 ∧ Aside0 (dense_filled.l1 kq x3_1 x6_2 l0 (l0.length : Int) x22_2 = some r) ∧ Aside0 (kq ≤ k1) ∧ Aside0 (Kd.S (Kd.slice 5 (Kd.int .u8)) 22 w' w.heap.size (fun _ => True) v6 x6_2) ∧ Aside0 (Below w.heap.size w w'))
        case atStart => exact ⟨(([] : List (List Int))), (0), (by first | rfl | (simp; done) | (simp [*]; done)), H', ⟨Nat.le_refl _⟩, ⟨by first | exact Kd.S_nil _ _ _ _ _ | exact Kd.N_nil _ _ _ _ _ | exact Kd.V_nil _ _ _ _ _ | exact Kd.Q_nil _ _ _ _ _ | exact Kd.R_nil _ _ _ _ _⟩, ⟨by repeat (first | (with_reducible first | exact HB.out | apply below_alloc | apply pw_below_drewN | apply below_drew1) | exact HB.out)⟩⟩
        case round =>
          clear H'
          try clear c1
          try clear p1
          try clear q1
          try clear hx1
          try clear c2
          try clear c2b0
          try clear p2
          try clear c3
          try clear c3b0
          try clear c4
          try clear c4b0
          try clear hx101_0
          try clear p101
          try clear q101
          obtain ⟨x6_2, x22_2, rfl, HA, HK2, HO_6, HB⟩ := hrel
          cases gk with
          | zero => exact absurd HA.out (by simp [dense_filled.l1])
          | succ k2 =>
            have H := HA.out
            clear HA
            simp only [dense_filled.l1] at H
            by_cases c6 : x22_2 < (l0.length : Int)
            · rw [if_pos c6] at H
              have c6b0 : decide (x22_2 < (l0.length : Int)) = true := decide_eq_true c6
              clear c6
              by_cases c7 : 0 ≤ x22_2
              · rw [if_pos c7] at H
                have c7b0 : decide (0 ≤ x22_2) = true := decide_eq_true c7
                clear c7
                by_cases c8 : x22_2 < (l0.length : Int)
                · rw [if_pos c8] at H
                  have c8b0 : decide (x22_2 < (l0.length : Int)) = true := decide_eq_true c8
                  clear c8
                  replace H := Option.bind_eq_some_iff.mp H
                  obtain ⟨t103, A90, H⟩ := H
                  replace H : (if 0 ≤ (wrap64 (x3_1 - ((rd_L1 l0 x22_2).length : Int))) then (if t103.length + (wrap64 (x3_1 - ((rd_L1 l0 x22_2).length : Int)) : Int).toNat < 140737488355328 then (if x6_2.length < 5864062014805 then (dense_filled.l1 k2 x3_1 (x6_2 ++ [(t103 ++ List.replicate (wrap64 (x3_1 - ((rd_L1 l0 x22_2).length : Int)) : Int).toNat 0)]) l0 (l0.length : Int) (wrap64 (x22_2 + 1))) else (none)) else (none)) else (none)) = some r := H
                  have A9 := Aside0.mk A90
                  clear A90
                  obtain ⟨ji10, hji10⟩ : ∃ j_ : Int, (wrap64 (x3_1 - ((rd_L1 l0 x22_2).length : Int))) = j_ := ⟨_, rfl⟩
                  replace H : (if 0 ≤ (ji10) then (if t103.length + (ji10 : Int).toNat < 140737488355328 then (if x6_2.length < 5864062014805 then (dense_filled.l1 k2 x3_1 (x6_2 ++ [(t103 ++ List.replicate (ji10 : Int).toNat 0)]) l0 (l0.length : Int) (wrap64 (x22_2 + 1))) else (none)) else (none)) else (none)) = some r := by first | (rw [hji10] at H; exact H) | (simp only [hji10] at H ⊢; exact H)
                  (try rw [hji10] at A9)
                  have hji10w : (IntKind.i64.wrap (x3_1 - ((rd_L1 l0 x22_2).length : Int))) = ji10 := (i64_w _).trans hji10
                  by_cases c11 : 0 ≤ (ji10)
                  · rw [if_pos c11] at H
                    have c11b0 := eq_true c11
                    have c11b1 : decide (0 ≤ (ji10)) = true := decide_eq_true c11
                    clear c11
                    by_cases c12 : t103.length + (ji10 : Int).toNat < 140737488355328
                    · rw [if_pos c12] at H
                      have LMc12 := Aside0.mk c12
                      clear c12
                      obtain ⟨y106, hy106⟩ : ∃ y_ : List Int, y_ = (t103 ++ List.replicate (ji10 : Int).toNat 0) := ⟨_, rfl⟩
                      replace H : (if x6_2.length < 5864062014805 then (dense_filled.l1 k2 x3_1 (x6_2 ++ [y106]) l0 (l0.length : Int) (wrap64 (x22_2 + 1))) else (none)) = some r := by first | (rw [hy106]; with_reducible exact H) | (have H2_ := (Option.bind_some _ _).symm.trans H; rw [hy106]; with_reducible exact H2_) | (have H2_ := (Option.bind_some _ _).symm.trans H; with_reducible exact H2_) | with_reducible exact H | (rw [hy106]; exact H) | exact H
                      have Ny106 := Aside0.mk hy106
                      clear hy106
                      by_cases c13 : x6_2.length < 5864062014805
                      · rw [if_pos c13] at H
                        have LMc13 := Aside0.mk c13
                        clear c13
                        obtain ⟨y109, hy109⟩ : ∃ y_ : List (List Int), y_ = (x6_2 ++ [y106]) := ⟨_, rfl⟩
                        replace H : (dense_filled.l1 k2 x3_1 y109 l0 (l0.length : Int) (wrap64 (x22_2 + 1))) = some r := by first | (rw [hy109]; with_reducible exact H) | (have H2_ := (Option.bind_some _ _).symm.trans H; rw [hy109]; with_reducible exact H2_) | (have H2_ := (Option.bind_some _ _).symm.trans H; with_reducible exact H2_) | with_reducible exact H | (rw [hy109]; exact H) | exact H
                        have Ny109 := Aside0.mk hy109
                        clear hy109
                        have H' := Aside0.mk H
                        clear H
                        have p102 : 0 ≤ (x22_2 : Int) := of_decide_eq_true (by first | (with_reducible assumption) | assumption)
                        have q102 : x22_2 < (l0.length : Int) := of_decide_eq_true (by first | (with_reducible assumption) | assumption)
                        obtain ⟨ad102, A102_0, c102_0, e102, hx102_0, hl102_0, hi102_0⟩ := at_L1 HR0.out x22_2 p102 q102
                        cases e102
                        (first | (replace hx102_0 := (HB.out.cell (World.block_lt_of_cell? w _ hx102_0)).trans hx102_0) | skip)
                        have HR102_0 := Aside0.mk hi102_0
                        have HC102_0 := Aside0.mk hl102_0
                        clear hi102_0 hl102_0
                        replace p102 := eq_true p102
                        replace q102 := eq_true q102
                        go_wp2_with (first | ((with_reducible refine gate_callee (f := 21) rfl ?_); refine goesL_ (some 28) rfl rfl Tryd.func21 (by kernel_rfl) rfl #[.slice A102_0 (rd_L1 l0 x22_2).length c102_0] rfl (by (try simp only [List.map_toArray, List.map_cons, List.map_nil]); first | done | rfl | (simp only [List.length_drop, List.length_take]; rfl)) ?_; (with_reducible refine (bytes_Clone.calls _ _ (rd_L1 l0 x22_2) t103 _ ?side1 ?side2 A9.out).mono ?_); (case side1 => repeat (first | exact (Kd.C_below HR102_0.out HB.out) | (with_reducible refine Kd.C_alloc ?_ _) | (with_reducible refine Kd.C_drewN ?_ _) | (with_reducible refine Kd.C_drew ?_))); (case side2 => exact HC102_0.out); rintro e w14 ⟨v104, rfl, ho0, hb⟩; refine ⟨_, rfl, ?_⟩; have n0_ := Aside0.mk (Kd.S_elder' (by (with_reducible repeat (first | apply Kd.S_alloc | apply Kd.S_drewN | apply Kd.S_drew)); exact HO_6.out) (Kd.R_base ho0) hb); have n1_ := Aside0.mk (Kd.R_lower ho0 (below_size (by repeat (first | (with_reducible first | exact HB.out | apply below_alloc | apply pw_below_drewN | apply below_drew1) | exact HB.out)))); have n2_ := Aside0.mk (below_step (by repeat (first | (with_reducible first | exact HB.out | apply below_alloc | apply pw_below_drewN | apply below_drew1) | exact HB.out)) hb); clear HO_6; clear HB; have HO_6 := n0_; have HO105 := n1_; have HB := n2_; clear n0_ n1_ n2_; (try clear hb); (try clear hb2); (try clear hk); (try clear hi); (try clear ho0)) | (at_builtin; refine Kd.R_append_zeros (Kd.int .u8) (w0 := w) w.heap.size rfl (.tmp 28) (.tmp 32) 22 3 5 (.int .u8 0) 1 rfl Tryd.underlying22 Tryd.underlying3 info5 rfl (by decide) (by omega) v104 t103 0 (ji10 : Int) (fun _ => True) rfl rfl rfl ?aF ?aO (of_decide_eq_true (by first | (with_reducible assumption) | assumption)) ?aB ?aS ?aL ?_; (case aB => exact (by repeat (first | (with_reducible first | exact HB.out | apply below_alloc | apply pw_below_drewN | apply below_drew1) | exact HB.out))); (case aF => exact (fun _ _ => trivial)); (case aO => exact (by (with_reducible repeat (first | apply Kd.R_alloc | apply Kd.R_drewN | apply Kd.R_drew)); exact HO105.out)); (case aS => exact (below_size (by repeat (first | (with_reducible first | exact HB.out | apply below_alloc | apply pw_below_drewN | apply below_drew1) | exact HB.out)))); (case aL => have := LMc12.out; omega); intro v107 w15 ho hb hg hat; rw [← Ny106.out] at ho; have n0_ := Aside0.mk (Kd.S_after (ok := (fun _ => True)) (by (with_reducible repeat (first | apply Kd.S_alloc | apply Kd.S_drewN | apply Kd.S_drew)); exact HO_6.out) hg hat); have n1_ := Aside0.mk (hb); have n2_ := Aside0.mk (ho); clear HO_6; clear HB; clear HO105; have HO_6 := n0_; have HB := n1_; have HO108 := n2_; clear n0_ n1_ n2_; clear ho hb hg hat; obtain ⟨Ao17, co17, eo17⟩ := Kd.R_slice HO108.out; subst eo17) | ((with_reducible refine gate_builtin (b := .append) (xs := #[.tmp 26, .tmp 34]) rfl ?_); at_builtin; refine Kd.S_append (Kd.slice 5 (Kd.int .u8)) (w0 := w) w.heap.size rfl (.tmp 26) (.tmp 34) 35 22 (.slice none 0 0) 24 rfl Tryd.underlying35 info22 rfl (by decide) (by omega) u6 x6_2 y106 [.slice Ao17 y106.length co17] (fun _ => True) (fun k_ => some k_ = (.slice Ao17 y106.length co17 : Value).ownBlock) rfl rfl ?aP (fun k_ hk_ => ((Kd.R_mono (ok' := fun k_ => ((fun _ => True)) k_ ∧ some k_ ≠ (u6 : Value).ownBlock) (Kd.R_apart' (HO108.out) (Kd.S_typed HO_6.out) (by decide)) (fun k_ hk => ⟨trivial, hk.2⟩))).1 k_ hk_.symm) ?aF ?aO ?aB ?aS ?aL ?_; (case aP => exact Kd.M_row (Kd.R_mono (Kd.R_tight rfl (Kd.R_mono (ok' := fun k_ => ((fun _ => True)) k_ ∧ some k_ ≠ (u6 : Value).ownBlock) (Kd.R_apart' (HO108.out) (Kd.S_typed HO_6.out) (by decide)) (fun k_ hk => ⟨trivial, hk.2⟩))) (fun _ h_ => h_))); (case aB => exact (by repeat (first | (with_reducible first | exact HB.out | apply below_alloc | apply pw_below_drewN | apply below_drew1) | exact HB.out))); (case aF => exact (fun _ _ => trivial)); (case aO => exact (by (with_reducible repeat (first | apply Kd.S_alloc | apply Kd.S_drewN | apply Kd.S_drew)); exact Kd.S_mono HO_6.out (fun k_ hk => ⟨trivial, fun e_ => hk.2 e_⟩))); (case aS => exact (below_size (by repeat (first | (with_reducible first | exact HB.out | apply below_alloc | apply pw_below_drewN | apply below_drew1) | exact HB.out)))); (case aL => have := LMc13.out; omega); intro v110 w16 ho hb hg hat; rw [← Ny109.out] at ho; have n0_ := Aside0.mk (hb); have n1_ := Aside0.mk (ho); clear HB; clear HO_6; clear HO108; have HB := n0_; have HO111 := n1_; clear n0_ n1_; clear ho hb hg hat))
                        go_roundg k2
                        case measure => have := HK1.out; have := HK2.out; omega
                        case rel => exact ⟨(y109), (wrap64 (x22_2 + 1)), (by first | rfl | (simp; done) | (simp [*]; done)), H', ⟨by have := HK1.out; have := HK2.out; omega⟩, ⟨by (with_reducible repeat (first | apply Kd.S_alloc | apply Kd.S_drewN | apply Kd.S_drew)); exact HO111.out⟩, ⟨by repeat (first | (with_reducible first | exact HB.out | apply below_alloc | apply pw_below_drewN | apply below_drew1) | exact HB.out)⟩⟩
                      · rw [if_neg c13] at H
                        exact absurd H (by simp)
                    · rw [if_neg c12] at H
                      exact absurd H (by simp)
                  · rw [if_neg c11] at H
                    exact absurd H (by simp)
                · rw [if_neg c8] at H
                  exact absurd H (by simp)
              · rw [if_neg c7] at H
                exact absurd H (by simp)
            · rw [if_neg c6] at H
              have c6b0 : decide (x22_2 < (l0.length : Int)) = false := decide_eq_false c6
              clear c6
              obtain rfl := Option.some.inj H
              go_wp2
              go_ret
              exact ⟨_, by first | rfl | (simp [errW_none, errW_some] <;> rfl) | (simp [*, errW_none, errW_some] <;> rfl), by (with_reducible repeat (first | apply Kd.S_alloc | apply Kd.S_drewN | apply Kd.S_drew)); exact HO_6.out, by repeat (first | (with_reducible first | exact HB.out | apply below_alloc | apply pw_below_drewN | apply below_drew1) | exact HB.out)⟩

/-! ### dense_width: function 38 -/
def dense_width.f (l0 : List (List Int)) : Option (Int) := if (l0.length : Int) = 0 then (some 0) else (if 0 < (l0.length : Int) then (some ((rd_L1 l0 0).length : Int)) else (none))
set_option maxHeartbeats 8000000 in
set_option maxRecDepth 100000 in
theorem dense_width.calls (A0 : Option Addr) (c0 : Nat) (l0 : List (List Int)) (r : Int) (w : World) (hr0 : Kd.C (Kd.slice 5 (Kd.int .u8)) w A0 l0.length l0) (hc0 : l0.length ≤ c0) (h : dense_width.f l0 = some r) :
    Calls Tryd.prog 38 #[.slice A0 l0.length c0] w fun e w' => e = .returned (.int .i64 r) ∧ Drawn0 w w' := by
  have HR0 := Aside0.mk hr0
  have HC0 := Aside0.mk hc0
  clear hr0 hc0
  have H : (if (l0.length : Int) = 0 then (some 0) else (if 0 < (l0.length : Int) then (some ((rd_L1 l0 0).length : Int)) else (none))) = some r := h
  clear h
  by_cases c2 : (l0.length : Int) = 0
  · rw [if_pos c2] at H
    have c2b0 : ((l0.length : Int) == 0) = true := beq_iff_eq.mpr c2
    have c2b1 : ((l0.length : Int) != 0) = false := bne_eq_false_iff_eq.mpr c2
    clear c2
    obtain rfl := Option.some.inj H
    go_enter Tryd.func38, Tryd.ntmps38
    go_wp2
    go_ret
    exact ⟨by first | rfl | (simp; done) | (simp [*]; done), by repeat (first | exact Drawn0.refl _ | apply Drawn0.step)⟩
  · rw [if_neg c2] at H
    have c2b0 : ((l0.length : Int) == 0) = false := beq_eq_false_iff_ne.mpr c2
    have c2b1 : ((l0.length : Int) != 0) = true := bne_iff_ne.mpr c2
    have c2b2 : ¬ (l0 = []) := fun h_ => c2 (by rw [h_]; rfl)
    by_cases c3 : 0 < (l0.length : Int)
    · rw [if_pos c3] at H
      have c3b0 : decide (0 < (l0.length : Int)) = true := decide_eq_true c3
      have c3b1 : decide (0 < l0.length) = true := decide_eq_true (by omega)
      clear c3
      obtain rfl := Option.some.inj H
      have p112 : 0 ≤ (0 : Int) := (by omega)
      have q112 : 0 < (l0.length : Int) := of_decide_eq_true (by first | (with_reducible assumption) | assumption)
      obtain ⟨ad112, A112_0, c112_0, e112, hx112_0, hl112_0, hi112_0⟩ := at_L1 HR0.out 0 p112 q112
      cases e112
      have qi112 : (0 < l0.length) = True := eq_true (by omega)
      (try rw [show ((0 : Int)).toNat = 0 from rfl] at hx112_0)
      (try rw [Addr.add_zero'] at hx112_0)
      have HR112_0 := Aside0.mk hi112_0
      have HC112_0 := Aside0.mk hl112_0
      clear hi112_0 hl112_0
      replace p112 := eq_true p112
      replace q112 := eq_true q112
      go_enter Tryd.func38, Tryd.ntmps38
      go_wp2
      go_ret
      exact ⟨by first | rfl | (simp; done) | (simp [*]; done), by repeat (first | exact Drawn0.refl _ | apply Drawn0.step)⟩
    · rw [if_neg c3] at H
      exact absurd H (by simp)

end Go.Proofs.YtcmigmldecacpaaDoor.QFilled
/- Rank and Reduce, in the form in which the printer asks for them. -/
namespace Go.Proofs.YtcmigmldecacpaaDoor.Giv
open Go Go.RowKit Go.Proofs.YtcmigmldecacpaaDoorW.PrintWords Go.Proofs.YtcmigmldecacpaaDoorW.PrintLast Go.Proofs.YtcmigmldecacpaaDoorW.PrintMore Go.Proofs.YtcmigmldecacpaaDoor.Vec Go.Proofs.YtcmigmldecacpaaDoor.Dense Go.Proofs.YtcmigmldecacpaaDoor.Reduce
set_option linter.unusedSimpArgs false
set_option linter.unusedVariables false

/-! ### rows, filled -/
def okR (l : List (List Int)) : Bool := decide (l.length ≤ 1000) && l.all fun r => decide (r.length ≤ 1000) && okB r
theorem okR_iff {l : List (List Int)} (h : okR l = true) : l.length ≤ 1000 ∧ ∀ r ∈ l, r.length ≤ 1000 ∧ By r := by
  unfold okR at h
  simp only [Bool.and_eq_true, decide_eq_true_eq, List.all_eq_true] at h
  exact ⟨h.1, fun r hr => ⟨(h.2 r hr).1, okB_by (h.2 r hr).2⟩⟩
def maxFrom (m : Nat) (l : List (List Int)) : Nat := l.foldl (fun n r => max n r.length) m
def padTo (m : Nat) (r : List Int) : List Int := r ++ List.replicate (m - r.length) 0
def fillRows (l : List (List Int)) : List (List Int) := l.map (padTo (maxFrom 0 l))
def widthN (l : List (List Int)) : Nat := (l.headD []).length
theorem maxFrom_le {B : Nat} : ∀ (l : List (List Int)) (m : Nat), m ≤ B → (∀ r ∈ l, r.length ≤ B) → maxFrom m l ≤ B
  | [], m, hm, _ => hm
  | r :: l, m, hm, h => maxFrom_le l (max m r.length) (by have := h r (by simp); omega) (fun x hx => h x (by simp [hx]))
theorem le_maxFrom : ∀ (l : List (List Int)) (m : Nat), m ≤ maxFrom m l ∧ ∀ r ∈ l, r.length ≤ maxFrom m l
  | [], m => ⟨Nat.le_refl _, fun r hr => by cases hr⟩
  | r :: l, m => by
    have h := le_maxFrom l (max m r.length)
    refine ⟨Nat.le_trans (Nat.le_max_left _ _) h.1, fun x hx => ?_⟩
    rcases List.mem_cons.1 hx with rfl | hx
    · exact Nat.le_trans (Nat.le_max_right _ _) h.1
    · exact h.2 x hx
theorem padTo_length {m : Nat} {r : List Int} (h : r.length ≤ m) : (padTo m r).length = m := by unfold padTo; rw [List.length_append, List.length_replicate]; omega
theorem padTo_by {m : Nat} {r : List Int} (h : By r) : By (padTo m r) := by
  intro x hx
  rcases List.mem_append.1 hx with hx | hx
  · exact h x hx
  · have := List.eq_of_mem_replicate hx
    omega
theorem fill_slots {l : List (List Int)} (h : ∀ r ∈ l, r.length ≤ 1000 ∧ By r) : Slots (fillRows l) (maxFrom 0 l) ∧ maxFrom 0 l ≤ 1000 ∧ (fillRows l).length = l.length := by
  refine ⟨⟨fun r hr => ?_, fun r hr => ?_⟩, maxFrom_le l 0 (by omega) (fun r hr => (h r hr).1), by unfold fillRows; rw [List.length_map]⟩
  · obtain ⟨x, hx, rfl⟩ := List.mem_map.1 hr
    exact padTo_length ((le_maxFrom l 0).2 x hx)
  · obtain ⟨x, hx, rfl⟩ := List.mem_map.1 hr
    exact padTo_by (h x hx).2
theorem width_fill {l : List (List Int)} (h : ∀ r ∈ l, r.length ≤ 1000 ∧ By r) : widthN (fillRows l) ≤ maxFrom 0 l := by
  cases l with
  | nil => simp [widthN, fillRows]
  | cons r t =>
    have := (fill_slots h).1.len (padTo (maxFrom 0 (r :: t)) r) (by simp [fillRows])
    show (padTo (maxFrom 0 (r :: t)) r).length ≤ _
    omega
theorem fl1 (l : List (List Int)) (M : Nat) (hM : M ≤ 1000) (hl : l.length ≤ 1000) (h : ∀ r ∈ l, r.length ≤ M) : ∀ (d i k : Nat) (out : List (List Int)), i + d = l.length → d < k → out = (l.take i).map (padTo M) → QFilled.dense_filled.l1 k M out l (l.length : Int) i = some (l.map (padTo M)) := by
  intro d
  induction d with
  | zero =>
    intro i k out hi hk ho
    obtain ⟨k, rfl⟩ : ∃ m, k = m + 1 := ⟨k - 1, by omega⟩
    simp only [QFilled.dense_filled.l1]
    rw [if_neg (by omega), ho, List.take_of_length_le (by omega)]
  | succ d ih =>
    intro i k out hi hk ho
    obtain ⟨k, rfl⟩ : ∃ m, k = m + 1 := ⟨k - 1, by omega⟩
    have hi' : i < l.length := by omega
    have hr := h _ (List.getElem_mem hi')
    have hrd : QFilled.rd_L1 l (i : Int) = l[i] := by
      unfold QFilled.rd_L1; rw [Int.toNat_natCast, List.getD_eq_getElem?_getD, List.getElem?_eq_getElem hi']; rfl
    have hcl : bytes_Clone.f l[i] = some l[i] := by unfold bytes_Clone.f; rw [if_pos (by omega)]
    have hw : wrap64 ((M : Int) - (l[i].length : Int)) = ((M - l[i].length : Nat) : Int) := by unfold wrap64; omega
    have hw1 : wrap64 ((i : Int) + 1) = ((i + 1 : Nat) : Int) := by unfold wrap64; omega
    have hol : out.length ≤ 1000 := by rw [ho, List.length_map, List.length_take]; omega
    have hnx := ih (i + 1) k (out ++ [padTo M l[i]]) (by omega) (by omega) (by rw [ho, List.take_succ_eq_append_getElem hi', List.map_append]; rfl)
    simp only [QFilled.dense_filled.l1]
    rw [if_pos (by omega), if_pos (by omega), if_pos (by omega), hrd, hcl, Option.bind_some, hw, if_pos (by omega), Int.toNat_natCast, if_pos (by omega), if_pos (by omega), hw1]
    exact hnx
theorem fl0 (l : List (List Int)) (hl : l.length ≤ 1000) (h : ∀ r ∈ l, r.length ≤ 1000) : ∀ (d i k m : Nat), i + d = l.length → d + l.length + 1 < k → m ≤ 1000 → (∀ r ∈ l, r.length ≤ maxFrom m (l.drop i)) → QFilled.dense_filled.l0 k l m l (l.length : Int) i = some (l.map (padTo (maxFrom m (l.drop i)))) := by
  intro d
  induction d with
  | zero =>
    intro i k m hi hk hm hh
    obtain ⟨k, rfl⟩ : ∃ m, k = m + 1 := ⟨k - 1, by omega⟩
    rw [List.drop_eq_nil_of_le (by omega)] at hh ⊢
    simp only [QFilled.dense_filled.l0]
    rw [if_neg (by omega)]
    exact fl1 l m hm hl hh l.length 0 k [] (by omega) (by omega) rfl
  | succ d ih =>
    intro i k m hi hk hm hh
    obtain ⟨k, rfl⟩ : ∃ m, k = m + 1 := ⟨k - 1, by omega⟩
    have hi' : i < l.length := by omega
    have hrd : QFilled.rd_L1 l (i : Int) = l[i] := by
      unfold QFilled.rd_L1; rw [Int.toNat_natCast, List.getD_eq_getElem?_getD, List.getElem?_eq_getElem hi']; rfl
    have hmx : mx (m : Int) (l[i].length : Int) = ((max m l[i].length : Nat) : Int) := by unfold mx; omega
    have hw1 : wrap64 ((i : Int) + 1) = ((i + 1 : Nat) : Int) := by unfold wrap64; omega
    rw [List.drop_eq_getElem_cons hi'] at hh ⊢
    simp only [QFilled.dense_filled.l0]
    rw [if_pos (by omega), if_pos (by omega), if_pos (by omega), hrd, hmx, hw1]
    exact ih (i + 1) k (max m l[i].length) (by omega) (by omega) (by have := h _ (List.getElem_mem hi'); omega) hh
theorem filled_f {l : List (List Int)} (hl : l.length ≤ 1000) (h : ∀ r ∈ l, r.length ≤ 1000 ∧ By r) : QFilled.dense_filled.f (2 * l.length + 2) l = some (fillRows l) := by
  unfold QFilled.dense_filled.f
  exact fl0 l hl (fun r hr => (h r hr).1) l.length 0 _ 0 (by omega) (by omega) (by omega) (fun r hr => by rw [List.drop_zero]; exact (le_maxFrom l 0).2 r hr)
abbrev kR : Kd (List Int) := Kd.slice 5 (Kd.int .u8)
theorem info_row : (Tryd.prog.info? 22).map (fun i => (i.zero, i.size, i.bytes)) = some (some (.slice none 0 0), 1, 24) := by kernel_rfl
theorem filled_calls (A0 : Option Addr) (c0 : Nat) (l : List (List Int)) (w : World) (hC : Kd.C kR w A0 l.length l) (hc : l.length ≤ c0) (hl : l.length ≤ 1000) (h : ∀ r ∈ l, r.length ≤ 1000 ∧ By r) :
    Calls Tryd.prog 37 #[.slice A0 l.length c0] w fun e w' => ∃ A c, e = .returned (.slice A (fillRows l).length c) ∧ Kd.R kR 22 w' w.heap.size (fun _ => True) (.slice A (fillRows l).length c) (fillRows l) ∧ Below w.heap.size w w' := by
  refine (QFilled.dense_filled.calls _ A0 c0 l _ w hC hc (filled_f hl h)).mono ?_
  rintro e w' ⟨v, rfl, hS, hb⟩
  have hR := Kd.S_R hS
  obtain ⟨A, c, rfl⟩ := Kd.R_slice hR
  exact ⟨A, c, rfl, hR, hb⟩
theorem width_calls (A : Option Addr) (c : Nat) (l : List (List Int)) (w : World) (hC : Kd.C kR w A l.length l) (hc : l.length ≤ c) :
    Calls Tryd.prog 38 #[.slice A l.length c] w fun e w' => e = .returned (.int .i64 (widthN l : Nat)) ∧ Below w.heap.size w w' := by
  refine (QFilled.dense_width.calls A c l (widthN l : Nat) w hC hc ?_).mono (fun e w' h => ⟨h.1, h.2.below⟩)
  unfold QFilled.dense_width.f
  cases l with
  | nil => rfl
  | cons r t =>
    rw [if_neg (by simp <;> omega), if_pos (by simp <;> omega)]
    rfl
/-! ### rows' two forms -/
theorem nums_of_reps {w : World} {base : Nat} {ok : Nat → Prop} {row : List Int} {cs : List Value} (h : Reps ((Kd.int .u8).M w base ok) 1 row cs) : cs = nums .u8 row :=
  Kd.reps_encs (enc := fun x => Value.int .u8 x) h
theorem rows_of_R {base : Nat} {w : World} {v : Value} {ok : Nat → Prop} {rows : List (List Int)} (h : Kd.R kR 22 w base ok v rows) (hl : ∀ r ∈ rows, r.length ≤ 100000) : ∃ ks, RowsIs base w v ks rows := by
  obtain ⟨h0, inner, ho, hr⟩ := h
  have hlen : inner.length = rows.length := (hr.1).trans (Nat.mul_one _)
  refine ⟨inner, by rw [hlen]; exact ho, hlen, fun i u row h1 h2 => ?_⟩
  obtain ⟨v', hv', g0, in2, ho2, hr2⟩ := hr.2 i row h2
  have hi := (List.getElem?_eq_some_iff.1 h1).1
  have e1 : (inner.drop (i * 1)).take 1 = [u] := by
    rw [Nat.mul_one, List.drop_eq_getElem_cons hi, List.take_succ_cons, List.take_zero]
    rw [List.getElem?_eq_getElem hi] at h1
    injection h1 with h1
    rw [h1]
  have e2 : ([u] : List Value) = [v'] := e1.symm.trans hv'
  injection e2 with e2
  subst e2
  obtain rfl := nums_of_reps hr2
  have ho3 : w.ownsRow base 5 1 u row.length (nums .u8 row) := ho2
  obtain ⟨A, c, rfl⟩ := Vec.own_slice ho3
  have hrl := hl row (List.mem_of_getElem? h2)
  refine ⟨A, c, rfl, own_le ho3, Gy.own_reads ho3 rfl (by omega), ho3, fun e => ?_⟩
  obtain ⟨g, cap, rfl⟩ := Gy.own_some ho (Nat.lt_of_le_of_lt (Nat.zero_le _) (List.getElem?_eq_some_iff.1 h2).1)
  exact (g0 g e).2 rfl
theorem R_of_rows {base : Nat} {w : World} {v : Value} {ks : List Value} {rows : List (List Int)} (h : RowsIs base w v ks rows) : Kd.R kR 22 w base (fun _ => True) v rows := by
  refine ⟨fun _ _ => trivial, ks, by have := h.own; rw [h.len] at this; exact this, by rw [h.len]; exact (Nat.mul_one _).symm, fun j p hj => ?_⟩
  have hjl := (List.getElem?_eq_some_iff.1 hj).1
  have hjk : j < ks.length := by rw [h.len]; exact hjl
  obtain ⟨A, c, e, hc, hR, ho, hne⟩ := h.el j _ p (List.getElem?_eq_getElem hjk) hj
  have e1 : (ks.drop (j * 1)).take 1 = [ks[j]] := by
    rw [Nat.mul_one, List.drop_eq_getElem_cons hjk, List.take_succ_cons, List.take_zero]
  show ∃ v', (ks.drop (j * 1)).take 1 = [v'] ∧ _
  rw [e1]
  exact ⟨ks[j], rfl, fun k hk => ⟨trivial, fun e2 => hne (hk.trans e2)⟩, nums .u8 p, ho, Kd.reps_scalar p⟩
/-! ### reduce, of rows that there may be none of -/
theorem redTo_nil (k : Nat) : redTo [] k = ([], []) := by
  induction k with
  | zero => rfl
  | succ k ih => rw [redTo_succ, ih]; rfl
set_option maxHeartbeats 4000000 in
set_option maxRecDepth 100000 in
theorem reduce_empty (A : Option Addr) (c N : Nat) (W : World) (hN : N ≤ 100000) :
    Calls Tryd.prog 27 #[.slice A 0 c, .int .i64 (N : Int)] W fun e w' => e = .returned (.slice none 0 0) ∧ Below W.heap.size W w' := by
  have HN := Lib.hid hN
  clear hN
  go_enter Tryd.func27, Tryd.ntmps27
  go_wp2_with fail
  go_loopw [5, 10] (fun v5 v10 wr => ∃ k : Nat, k ≤ N ∧ v10 = .int .i64 (k : Int) ∧ v5 = .slice none 0 0 ∧ Gy.Hd (Below W.heap.size W wr)) (fun _ v10 _ => N - (intOf v10).toNat)
  case atStart => exact ⟨0, Nat.zero_le _, rfl, rfl, ⟨Below.refl _ _⟩⟩
  case round =>
    obtain ⟨wb, rfl⟩ : ∃ wb, wb = wr := ⟨wr, rfl⟩
    obtain ⟨k, hk, rfl, rfl, hx⟩ := hrel
    have HX := Lib.hid hx.out
    clear hx
    by_cases hlt : k < N
    · have t3 := j_lt hlt
      have HJ := Lib.hid hlt
      have HWJ := Lib.hid (up_wrap hlt (by have := HN.out; omega))
      have hwj := HWJ.out
      have hend := end_row hlt
      clear hlt
      go_wp2_with fail
      go_loopw [8] (fun v8 wr => v8 = .int .i64 0 ∧ wr = wb) (fun _ _ => 0)
      case atStart => exact ⟨rfl, rfl⟩
      case round =>
        obtain ⟨rfl, rfl⟩ := hrel
        go_wp2_with fail
        (try rw [HWJ.out])
        exact ⟨⟨k + 1, HJ.out, by norm_cast, rfl, ⟨HX.out⟩⟩, hend⟩
    · obtain rfl : k = N := Nat.le_antisymm hk (Nat.le_of_not_lt hlt)
      have t3 : decide ((k : Int) < (k : Int)) = false := by simp
      go_wp2_with fail
      go_ret
      exact ⟨rfl, HX.out⟩
/-- what reduce leaves -/
structure Left (B : Nat) (w : World) (n c : Nat) (A : Option Addr) (rows : List (List Int)) (P : List Nat) (A5 : Option Addr) (c5 : Nat) (W w' : World) : Prop where
  rows : Kd.R kR 22 w' B (fun _ => True) (.slice A n c) rows
  pl : Kd.R (Kd.int .i64) 3 w' B (fun _ => True) (.slice A5 P.length c5) (P.map Int.ofNat)
  bel : Below B W w'
theorem reduced_calls (B n c N m : Nat) (A : Option Addr) (rows : List (List Int)) (W w : World) (h : Kd.R kR 22 w B (fun _ => True) (.slice A n c) rows) (hB : B ≤ w.heap.size) (hW : Below B W w) (hS : Slots rows m) (hm : m ≤ 100000) (hrl : rows.length ≤ 100000) (hN : N ≤ m ∨ (rows = [] ∧ N ≤ 100000)) :
    Calls Tryd.prog 27 #[.slice A n c, .int .i64 (N : Int)] w fun e w' => ∃ A5 c5, e = .returned (.slice A5 (redTo rows N).2.length c5) ∧ Left B w n c A (redTo rows N).1 (redTo rows N).2 A5 c5 W w' := by
  have hn := (Kd.R_reads' h).1
  subst hn
  by_cases h0 : rows = []
  · subst h0
    refine (reduce_empty A c N w (by rcases hN with h | h <;> omega)).mono ?_
    rintro e w' ⟨rfl, hb⟩
    rw [redTo_nil]
    exact ⟨none, 0, rfl, Kd.R_below h hb, Kd.R_nil _ _ _ _ _, hW.trans (hb.mono hB)⟩
  · have hpos : 0 < rows.length := List.length_pos_iff.2 h0
    obtain ⟨ks, hks⟩ := rows_of_R h (fun r hr => by rw [hS.len r hr]; exact hm)
    obtain ⟨g, cap, e⟩ := Gy.own_some hks.own (by rw [hks.len]; exact hpos)
    injection e with e1 e2 e3
    subst e1
    have hNm : N ≤ m := by rcases hN with h | h; exact h; exact absurd h.1 h0
    refine (reduce_calls B g _ c N m ks rows w hks hB hS hm hrl hNm).mono ?_
    rintro e w' ⟨v, rfl, hl⟩
    obtain ⟨A5, c5, rfl⟩ := Kd.R_slice hl.pl
    rw [List.length_map]
    obtain ⟨ks', hr⟩ := hl.rows
    have hlen := hr.n_eq
    have hpl := hl.pl
    rw [List.length_map] at hpl
    exact ⟨A5, c5, rfl, R_of_rows hr, Kd.R_lower hpl hB, hW.trans hl.bx.bel⟩
theorem F_len {α : Type} {d : Kd α} {W : World} {ok : Nat → Prop} {A : Option Addr} {n m : Nat} {xs : List α} (h : Kd.F d W ok A n xs) (e : n = m) : Kd.F d W ok A m xs := e ▸ h
/-! ### Rank and Reduce -/
def dense_Rank.f (l0 : List (List Int)) : Option Int := if okR l0 = true then some (((redTo (fillRows l0) (widthN (fillRows l0))).2.length : Nat) : Int) else none
theorem red_step {w w2 : World} {A2 : Option Addr} {c2 : Nat} {l : List (List Int)} (hl : l.length ≤ 1000) (h : ∀ r ∈ l, r.length ≤ 1000 ∧ By r) (hR : Kd.R kR 22 w2 w.heap.size (fun _ => True) (.slice A2 (fillRows l).length c2) (fillRows l)) (hb : Below w.heap.size w w2) :
    Calls Tryd.prog 27 #[.slice A2 (fillRows l).length c2, .int .i64 ((widthN (fillRows l) : Nat) : Int)] w2 fun e w' => ∃ A5 c5, e = .returned (.slice A5 (redTo (fillRows l) (widthN (fillRows l))).2.length c5) ∧ Left w.heap.size w2 (fillRows l).length c2 A2 (redTo (fillRows l) (widthN (fillRows l))).1 (redTo (fillRows l) (widthN (fillRows l))).2 A5 c5 w w' :=
  reduced_calls w.heap.size _ c2 _ (maxFrom 0 l) A2 _ w w2 hR hb.size hb (fill_slots h).1 (by have := (fill_slots h).2.1; omega) (by rw [(fill_slots h).2.2]; omega) (.inl (width_fill h))
set_option maxHeartbeats 4000000 in
set_option maxRecDepth 100000 in
theorem dense_Rank.calls (A0 : Option Addr) (c0 : Nat) (l0 : List (List Int)) (r : Int) (w : World) (hr0 : Kd.C (Kd.slice 5 (Kd.int .u8)) w A0 l0.length l0) (hc0 : l0.length ≤ c0) (h : dense_Rank.f l0 = some r) :
    Calls Tryd.prog 25 #[.slice A0 l0.length c0] w fun e w' => e = .returned (.int .i64 r) ∧ Below w.heap.size w w' := by
  unfold dense_Rank.f at h
  split at h
  · rename_i hok
    obtain rfl := Option.some.inj h
    obtain ⟨hl, hb⟩ := okR_iff hok
    have H := Lib.hid (And.intro hr0 (And.intro hc0 (And.intro hl hb)))
    clear hr0 hc0 h hok hl hb
    have HK := Lib.hid (fun (w2 : World) (A2 : Option Addr) (c2 : Nat) hR hb => red_step (w := w) (w2 := w2) (A2 := A2) (c2 := c2) H.out.2.2.1 H.out.2.2.2 hR hb)
    generalize redTo (fillRows l0) (widthN (fillRows l0)) = st at HK
    generalize hww : widthN (fillRows l0) = ww at HK
    obtain ⟨R, P⟩ := st
    have hw2 := Lib.hid hww
    clear hww
    go_enter Tryd.func25, Tryd.ntmps25
    go_wp2_with (first
      | (go_at_call 37; (with_reducible refine (filled_calls A0 c0 l0 _ H.out.1 H.out.2.1 H.out.2.2.1 H.out.2.2.2).mono ?_); rintro e w2 ⟨A2, c2, rfl, h2, b2⟩; have H2 := Lib.hid (And.intro h2 b2); clear h2 b2)
      | (go_at_call 38; (with_reducible refine (width_calls A2 c2 _ w2 (Kd.R_reads' H2.out.1).2.2 (Kd.R_reads' H2.out.1).2.1).mono ?_); rintro e w3 ⟨rfl, b3⟩; rw [hw2.out]; have H3 := Lib.hid b3; clear b3)
      | (go_at_call 27; (with_reducible refine (HK.out w3 A2 c2 (Kd.R_below H2.out.1 H3.out) (H2.out.2.trans (H3.out.mono H2.out.2.size))).mono ?_); rintro e w4 ⟨A5, c5, rfl, h4⟩; have H4 := Lib.hid h4; clear h4))
    go_ret
    exact ⟨rfl, H4.out.bel⟩
  · cases h
end Go.Proofs.YtcmigmldecacpaaDoor.Giv
/- Machine-made by a program of this claim: functions of the Go program as Lean functions, and that its calls do what these say. Lean checks it. -/
namespace Go.Proofs.YtcmigmldecacpaaDoor.QRInv
open Go.RowKit Go.Proofs.YtcmigmldecacpaaDoorW.PrintWords Go.Proofs.YtcmigmldecacpaaDoorW.PrintLast Go.Proofs.YtcmigmldecacpaaDoorW.PrintMore
attribute [local go_sem] max2_int min2_int max_two min_two max_three min_three max_four min_four   -- for this text's walks alone
set_option linter.unusedVariables false
set_option linter.unusedSimpArgs false



def errW : Option Int → Value
  | none => .nilIface
  | some c => .iface 0 (.int .i64 c)
theorem errW_none : errW none = .nilIface := rfl
theorem errW_some (c : Int) : errW (some c) = .iface 0 (.int .i64 c) := rfl

-- the values' own types

end Go.Proofs.YtcmigmldecacpaaDoor.QRInv
/- Machine-made by a program of this claim: functions of the Go program as Lean functions, and that its calls do what these say. Lean checks it. -/
namespace Go.Proofs.YtcmigmldecacpaaDoor.QRInv
open Go.RowKit Go.Proofs.YtcmigmldecacpaaDoorW.PrintWords Go.Proofs.YtcmigmldecacpaaDoorW.PrintLast Go.Proofs.YtcmigmldecacpaaDoorW.PrintMore
attribute [local go_sem] max2_int min2_int max_two min_two max_three min_three max_four min_four   -- for this text's walks alone
set_option linter.unusedVariables false
set_option linter.unusedSimpArgs false

/-! ### geyserref03_Mul: function 13 -/
mutual
def geyserref03_Mul.l0 : Nat → Int → Int → Int → Int → Option (Int)
  | 0, _, _, _, _ => none
  | k + 1, x0, x1, x5, x8 => if x8 < 8 then (if 0 ≤ (IntKind.u64.wrap (x8)) then (if (Go.bits .and .u8 (shr .u8 x1 (IntKind.u64.wrap (x8))) 1) = 1 then (geyserref03_Mul.l0 k x0 x1 (Go.bits .xor .i64 x5 (shl .i64 (wrap64 (x0)) (IntKind.u64.wrap (x8)))) (wrap64 (x8 + 1))) else (geyserref03_Mul.l0 k x0 x1 x5 (wrap64 (x8 + 1)))) else (none)) else (geyserref03_Mul.l1 k x5 14)
def geyserref03_Mul.l1 : Nat → Int → Int → Option (Int)
  | 0, _, _ => none
  | k + 1, x5, x7 => if x7 ≥ 8 then (if 0 ≤ (IntKind.u64.wrap (x7)) then (if (Go.bits .and .i64 (shr .i64 x5 (IntKind.u64.wrap (x7))) 1) = 1 then (if 0 ≤ (IntKind.u64.wrap (wrap64 (x7 - 8))) then (geyserref03_Mul.l1 k (Go.bits .xor .i64 x5 (shl .i64 285 (IntKind.u64.wrap (wrap64 (x7 - 8))))) (wrap64 (x7 - 1))) else (none)) else (geyserref03_Mul.l1 k x5 (wrap64 (x7 - 1)))) else (none)) else (some ((x5) % 256))
end
def geyserref03_Mul.f (k : Nat) (a0 : Int) (a1 : Int) : Option (Int) := geyserref03_Mul.l0 k a0 a1 0 0
theorem geyserref03_Mul.mono_l : ∀ k, (∀ y0 y1 y2 y3, LeO (geyserref03_Mul.l0 k y0 y1 y2 y3) (geyserref03_Mul.l0 (k + 1) y0 y1 y2 y3)) ∧ (∀ y0 y1, LeO (geyserref03_Mul.l1 k y0 y1) (geyserref03_Mul.l1 (k + 1) y0 y1))
  | 0 => ⟨fun _ _ _ _ r h => by simp [geyserref03_Mul.l0] at h, fun _ _ r h => by simp [geyserref03_Mul.l1] at h⟩
  | k + 1 => by
    obtain ⟨ih0, ih1⟩ := geyserref03_Mul.mono_l k
    refine ⟨?_, ?_⟩
    · intro y0 y1 y2 y3
      unfold geyserref03_Mul.l0
      repeat' first
      | (with_reducible exact ih0 _ _ _ _)
      | (with_reducible exact ih1 _ _)
      | (with_reducible exact LeO.refl _)
      | (with_reducible exact LeO.none _)
      | (with_reducible refine LeO.ite ?_ ?_)
      | (with_reducible refine LeO.bind ?_ (fun _ => ?_))
      | exact ih0 _ _ _ _
      | exact ih1 _ _
      | exact LeO.none _
      | refine LeO.ite ?_ ?_
      | refine LeO.bind ?_ (fun _ => ?_)
    · intro y0 y1
      unfold geyserref03_Mul.l1
      repeat' first
      | (with_reducible exact ih0 _ _ _ _)
      | (with_reducible exact ih1 _ _)
      | (with_reducible exact LeO.refl _)
      | (with_reducible exact LeO.none _)
      | (with_reducible refine LeO.ite ?_ ?_)
      | (with_reducible refine LeO.bind ?_ (fun _ => ?_))
      | exact ih0 _ _ _ _
      | exact ih1 _ _
      | exact LeO.none _
      | refine LeO.ite ?_ ?_
      | refine LeO.bind ?_ (fun _ => ?_)
theorem geyserref03_Mul.mono : ∀ a0 a1 k, LeO (geyserref03_Mul.f k a0 a1) (geyserref03_Mul.f (k + 1) a0 a1) := by
  intro a0 a1 k
  obtain ⟨ih0, ih1⟩ := geyserref03_Mul.mono_l k
  unfold geyserref03_Mul.f
  repeat' first
      | (with_reducible exact ih0 _ _ _ _)
      | (with_reducible exact ih1 _ _)
      | (with_reducible exact LeO.refl _)
      | (with_reducible exact LeO.none _)
      | (with_reducible refine LeO.ite ?_ ?_)
      | (with_reducible refine LeO.bind ?_ (fun _ => ?_))
      | exact ih0 _ _ _ _
      | exact ih1 _ _
      | exact LeO.none _
      | refine LeO.ite ?_ ?_
      | refine LeO.bind ?_ (fun _ => ?_)
set_option maxHeartbeats 8000000 in
set_option maxRecDepth 100000 in
theorem geyserref03_Mul.calls (k : Nat) (a0 : Int) (a1 : Int) (r : Int) (w : World) (h : geyserref03_Mul.f k a0 a1 = some r) :
    Calls Tryd.prog 13 #[.int .u8 a0, .int .u8 a1] w fun e w' => e = .returned (.int .u8 r) ∧ Drawn0 w w' := by
  have H : (geyserref03_Mul.l0 k a0 a1 0 0) = some r := h
  clear h
  have H' := Aside0.mk H
  clear H
  go_enter Tryd.func13, Tryd.ntmps13
  go_wp2
  go_loopg [5, 8] k (fun kq v5 v8 w' => ∃ (x5_1 : Int) (x8_1 : Int), v5 = .int .i64 x5_1 ∧ v8 = .int .i64 x8_1 ∧ Aside0 (geyserref03_Mul.l0 kq a0 a1 x5_1 x8_1 = some r) ∧ Aside0 (kq ≤ k) ∧ Drawn0 w w')
  case atStart => exact ⟨(0), (0), (by first | rfl | (simp; done) | (simp [*]; done)), (by first | rfl | (simp; done) | (simp [*]; done)), H', ⟨Nat.le_refl _⟩, by repeat (first | exact Drawn0.refl _ | apply Drawn0.step)⟩
  case round =>
    clear H'
    try clear c1
    try clear p2
    obtain ⟨x5_1, x8_1, rfl, rfl, HA, HK1, ⟨m1, rfl⟩⟩ := hrel
    cases gk with
    | zero => exact absurd HA.out (by simp [geyserref03_Mul.l0])
    | succ k1 =>
      have H := HA.out
      clear HA
      simp only [geyserref03_Mul.l0] at H
      by_cases c3 : x8_1 < 8
      · rw [if_pos c3] at H
        have c3b0 : decide (x8_1 < 8) = true := decide_eq_true c3
        clear c3
        obtain ⟨ji4, hji4⟩ : ∃ j_ : Int, (IntKind.u64.wrap (x8_1)) = j_ := ⟨_, rfl⟩
        replace H : (if 0 ≤ (ji4) then (if (Go.bits .and .u8 (shr .u8 a1 (ji4)) 1) = 1 then (geyserref03_Mul.l0 k1 a0 a1 (Go.bits .xor .i64 x5_1 (shl .i64 (wrap64 (a0)) (ji4))) (wrap64 (x8_1 + 1))) else (geyserref03_Mul.l0 k1 a0 a1 x5_1 (wrap64 (x8_1 + 1)))) else (none)) = some r := by first | (rw [hji4] at H; exact H) | (simp only [hji4] at H ⊢; exact H)
        by_cases c5 : 0 ≤ (ji4)
        · rw [if_pos c5] at H
          have c5b0 := eq_true c5
          have c5b1 : decide (0 ≤ (ji4)) = true := decide_eq_true c5
          clear c5
          obtain ⟨ji6, hji6⟩ : ∃ j_ : Int, (shr .u8 a1 (ji4)) = j_ := ⟨_, rfl⟩
          replace H : (if (Go.bits .and .u8 (ji6) 1) = 1 then (geyserref03_Mul.l0 k1 a0 a1 (Go.bits .xor .i64 x5_1 (shl .i64 (wrap64 (a0)) (ji4))) (wrap64 (x8_1 + 1))) else (geyserref03_Mul.l0 k1 a0 a1 x5_1 (wrap64 (x8_1 + 1)))) = some r := by first | (rw [hji6] at H; exact H) | (simp only [hji6] at H ⊢; exact H)
          have hji6_ : (a1 / 2 ^ min (ji4).toNat 8) = ji6 := hji6
          have hji6z : (ji4) ≤ 8 → (a1 / 2 ^ (ji4).toNat) = ji6 := shr_small hji6
          by_cases c7 : (Go.bits .and .u8 (ji6) 1) = 1
          · rw [if_pos c7] at H
            have c7b0 : ((Go.bits .and .u8 (ji6) 1) == 1) = true := beq_iff_eq.mpr c7
            have c7b1 : ((Go.bits .and .u8 (ji6) 1) != 1) = false := bne_eq_false_iff_eq.mpr c7
            clear c7
            have c8b0 := eq_true (of_decide_eq_true (by first | (with_reducible assumption) | assumption) : 0 ≤ (ji4))
            obtain ⟨ji9, hji9⟩ : ∃ j_ : Int, (shl .i64 (wrap64 (a0)) (ji4)) = j_ := ⟨_, rfl⟩
            replace H : (geyserref03_Mul.l0 k1 a0 a1 (Go.bits .xor .i64 x5_1 (ji9)) (wrap64 (x8_1 + 1))) = some r := by first | (rw [hji9] at H; exact H) | (simp only [hji9] at H ⊢; exact H)
            have hji9_ : (IntKind.i64.wrap ((wrap64 (a0)) * 2 ^ min (ji4).toNat 64)) = ji9 := hji9
            have hji9z : (ji4) ≤ 64 → (IntKind.i64.wrap ((wrap64 (a0)) * 2 ^ (ji4).toNat)) = ji9 := shl_small hji9
            have hji9y : (wrap64 ((wrap64 (a0)) * 2 ^ min (ji4).toNat 64)) = ji9 := (i64_w _).symm.trans hji9_
            have hji9x : (ji4) ≤ 64 → (wrap64 ((wrap64 (a0)) * 2 ^ (ji4).toNat)) = ji9 := fun h_ => (i64_w _).symm.trans (hji9z h_)
            have H' := Aside0.mk H
            clear H
            go_wp2
            go_roundg k1
            case measure => have := HK1.out; omega
            case rel => exact ⟨(Go.bits .xor .i64 x5_1 (ji9)), (wrap64 (x8_1 + 1)), (by first | rfl | (simp; done) | (simp only [← hji9] <;> (first | rfl | simp)) | (simp [*]; done)), (by first | rfl | (simp; done) | (simp [*]; done)), H', ⟨by have := HK1.out; omega⟩, by repeat (first | exact Drawn0.refl _ | apply Drawn0.step)⟩
          · rw [if_neg c7] at H
            have c7b0 : ((Go.bits .and .u8 (ji6) 1) == 1) = false := beq_eq_false_iff_ne.mpr c7
            have c7b1 : ((Go.bits .and .u8 (ji6) 1) != 1) = true := bne_iff_ne.mpr c7
            have H' := Aside0.mk H
            clear H
            go_wp2
            go_roundg k1
            case measure => have := HK1.out; omega
            case rel => exact ⟨(x5_1), (wrap64 (x8_1 + 1)), (by first | rfl | (simp; done) | (simp [*]; done)), (by first | rfl | (simp; done) | (simp [*]; done)), H', ⟨by have := HK1.out; omega⟩, by repeat (first | exact Drawn0.refl _ | apply Drawn0.step)⟩
        · rw [if_neg c5] at H
          exact absurd H (by simp)
      · rw [if_neg c3] at H
        have c3b0 : decide (x8_1 < 8) = false := decide_eq_false c3
        clear c3
        have H' := Aside0.mk H
        clear H
        go_wp2
        go_loopg [5, 7] k1 (fun kq v5 v7 w' => ∃ (x5_2 : Int) (x7_2 : Int), v5 = .int .i64 x5_2 ∧ v7 = .int .i64 x7_2 ∧ Aside0 (geyserref03_Mul.l1 kq x5_2 x7_2 = some r) ∧ Aside0 (kq ≤ k1) ∧ Drawn0 w w')
        case atStart => exact ⟨(x5_1), (14), (by first | rfl | (simp; done) | (simp [*]; done)), (by first | rfl | (simp; done) | (simp [*]; done)), H', ⟨Nat.le_refl _⟩, by repeat (first | exact Drawn0.refl _ | apply Drawn0.step)⟩
        case round =>
          clear H'
          try clear c1
          try clear p2
          try clear c3
          try clear c3b0
          try clear c5
          try clear c5b0
          try clear c5b1
          try clear p6
          try clear c7
          try clear c7b0
          try clear c7b1
          try clear c8
          try clear c8b0
          try clear p2
          obtain ⟨x5_2, x7_2, rfl, rfl, HA, HK2, ⟨m2, rfl⟩⟩ := hrel
          cases gk with
          | zero => exact absurd HA.out (by simp [geyserref03_Mul.l1])
          | succ k2 =>
            have H := HA.out
            clear HA
            simp only [geyserref03_Mul.l1] at H
            by_cases c10 : x7_2 ≥ 8
            · rw [if_pos c10] at H
              have c10b0 : decide (8 ≤ x7_2) = true := decide_eq_true c10
              clear c10
              obtain ⟨ji11, hji11⟩ : ∃ j_ : Int, (IntKind.u64.wrap (x7_2)) = j_ := ⟨_, rfl⟩
              replace H : (if 0 ≤ (ji11) then (if (Go.bits .and .i64 (shr .i64 x5_2 (ji11)) 1) = 1 then (if 0 ≤ (IntKind.u64.wrap (wrap64 (x7_2 - 8))) then (geyserref03_Mul.l1 k2 (Go.bits .xor .i64 x5_2 (shl .i64 285 (IntKind.u64.wrap (wrap64 (x7_2 - 8))))) (wrap64 (x7_2 - 1))) else (none)) else (geyserref03_Mul.l1 k2 x5_2 (wrap64 (x7_2 - 1)))) else (none)) = some r := by first | (rw [hji11] at H; exact H) | (simp only [hji11] at H ⊢; exact H)
              by_cases c12 : 0 ≤ (ji11)
              · rw [if_pos c12] at H
                have c12b0 := eq_true c12
                have c12b1 : decide (0 ≤ (ji11)) = true := decide_eq_true c12
                clear c12
                obtain ⟨ji13, hji13⟩ : ∃ j_ : Int, (shr .i64 x5_2 (ji11)) = j_ := ⟨_, rfl⟩
                replace H : (if (Go.bits .and .i64 (ji13) 1) = 1 then (if 0 ≤ (IntKind.u64.wrap (wrap64 (x7_2 - 8))) then (geyserref03_Mul.l1 k2 (Go.bits .xor .i64 x5_2 (shl .i64 285 (IntKind.u64.wrap (wrap64 (x7_2 - 8))))) (wrap64 (x7_2 - 1))) else (none)) else (geyserref03_Mul.l1 k2 x5_2 (wrap64 (x7_2 - 1)))) = some r := by first | (rw [hji13] at H; exact H) | (simp only [hji13] at H ⊢; exact H)
                have hji13_ : (x5_2 / 2 ^ min (ji11).toNat 64) = ji13 := hji13
                have hji13z : (ji11) ≤ 64 → (x5_2 / 2 ^ (ji11).toNat) = ji13 := shr_small hji13
                by_cases c14 : (Go.bits .and .i64 (ji13) 1) = 1
                · rw [if_pos c14] at H
                  have c14b0 : ((Go.bits .and .i64 (ji13) 1) == 1) = true := beq_iff_eq.mpr c14
                  have c14b1 : ((Go.bits .and .i64 (ji13) 1) != 1) = false := bne_eq_false_iff_eq.mpr c14
                  clear c14
                  obtain ⟨ji15, hji15⟩ : ∃ j_ : Int, (IntKind.u64.wrap (wrap64 (x7_2 - 8))) = j_ := ⟨_, rfl⟩
                  replace H : (if 0 ≤ (ji15) then (geyserref03_Mul.l1 k2 (Go.bits .xor .i64 x5_2 (shl .i64 285 (ji15))) (wrap64 (x7_2 - 1))) else (none)) = some r := by first | (rw [hji15] at H; exact H) | (simp only [hji15] at H ⊢; exact H)
                  by_cases c16 : 0 ≤ (ji15)
                  · rw [if_pos c16] at H
                    have c16b0 := eq_true c16
                    have c16b1 : decide (0 ≤ (ji15)) = true := decide_eq_true c16
                    clear c16
                    obtain ⟨ji17, hji17⟩ : ∃ j_ : Int, (shl .i64 285 (ji15)) = j_ := ⟨_, rfl⟩
                    replace H : (geyserref03_Mul.l1 k2 (Go.bits .xor .i64 x5_2 (ji17)) (wrap64 (x7_2 - 1))) = some r := by first | (rw [hji17] at H; exact H) | (simp only [hji17] at H ⊢; exact H)
                    have hji17_ : (IntKind.i64.wrap (285 * 2 ^ min (ji15).toNat 64)) = ji17 := hji17
                    have hji17z : (ji15) ≤ 64 → (IntKind.i64.wrap (285 * 2 ^ (ji15).toNat)) = ji17 := shl_small hji17
                    have hji17y : (wrap64 (285 * 2 ^ min (ji15).toNat 64)) = ji17 := (i64_w _).symm.trans hji17_
                    have hji17x : (ji15) ≤ 64 → (wrap64 (285 * 2 ^ (ji15).toNat)) = ji17 := fun h_ => (i64_w _).symm.trans (hji17z h_)
                    have H' := Aside0.mk H
                    clear H
                    go_wp2
                    go_roundg k2
                    case measure => have := HK1.out; have := HK2.out; omega
                    case rel => exact ⟨(Go.bits .xor .i64 x5_2 (ji17)), (wrap64 (x7_2 - 1)), (by first | rfl | (simp; done) | (simp only [← hji17] <;> (first | rfl | simp)) | (simp [*]; done)), (by first | rfl | (simp; done) | (simp [*]; done)), H', ⟨by have := HK1.out; have := HK2.out; omega⟩, by repeat (first | exact Drawn0.refl _ | apply Drawn0.step)⟩
                  · rw [if_neg c16] at H
                    exact absurd H (by simp)
                · rw [if_neg c14] at H
                  have c14b0 : ((Go.bits .and .i64 (ji13) 1) == 1) = false := beq_eq_false_iff_ne.mpr c14
                  have c14b1 : ((Go.bits .and .i64 (ji13) 1) != 1) = true := bne_iff_ne.mpr c14
                  have H' := Aside0.mk H
                  clear H
                  go_wp2
                  go_roundg k2
                  case measure => have := HK1.out; have := HK2.out; omega
                  case rel => exact ⟨(x5_2), (wrap64 (x7_2 - 1)), (by first | rfl | (simp; done) | (simp [*]; done)), (by first | rfl | (simp; done) | (simp [*]; done)), H', ⟨by have := HK1.out; have := HK2.out; omega⟩, by repeat (first | exact Drawn0.refl _ | apply Drawn0.step)⟩
              · rw [if_neg c12] at H
                exact absurd H (by simp)
            · rw [if_neg c10] at H
              have c10b0 : decide (8 ≤ x7_2) = false := decide_eq_false c10
              clear c10
              obtain rfl := Option.some.inj H
              go_wp2
              go_ret
              exact ⟨by first | rfl | (simp; done) | (simp [*]; done), by repeat (first | exact Drawn0.refl _ | apply Drawn0.step)⟩

/-! ### geyserref03_Inv: function 41 -/
def geyserref03_Inv.l0 : Nat → Int → Int → Option (Int)
  | 0, _, _ => none
  | k + 1, x0, x4 => if x4 < 256 then ((geyserref03_Mul.f k x0 ((x4) % 256)).bind fun t101 => (if t101 = 1 then (some ((x4) % 256)) else (geyserref03_Inv.l0 k x0 (wrap64 (x4 + 1))))) else (some 0)
def geyserref03_Inv.f (k : Nat) (a0 : Int) : Option (Int) := geyserref03_Inv.l0 k a0 0
theorem geyserref03_Inv.mono_l : ∀ k, (∀ y0 y1, LeO (geyserref03_Inv.l0 k y0 y1) (geyserref03_Inv.l0 (k + 1) y0 y1))
  | 0 => fun _ _ r h => by simp [geyserref03_Inv.l0] at h
  | k + 1 => by
    have ih0 := geyserref03_Inv.mono_l k
    · intro y0 y1
      unfold geyserref03_Inv.l0
      repeat' first
      | (with_reducible exact ih0 _ _)
      | (with_reducible exact geyserref03_Mul.mono _ _ _)
      | (with_reducible exact LeO.refl _)
      | (with_reducible exact LeO.none _)
      | (with_reducible refine LeO.ite ?_ ?_)
      | (with_reducible refine LeO.bind ?_ (fun _ => ?_))
      | exact ih0 _ _
      | exact geyserref03_Mul.mono _ _ _
      | exact LeO.none _
      | refine LeO.ite ?_ ?_
      | refine LeO.bind ?_ (fun _ => ?_)
theorem geyserref03_Inv.mono : ∀ a0 k, LeO (geyserref03_Inv.f k a0) (geyserref03_Inv.f (k + 1) a0) := by
  intro a0 k
  have ih0 := geyserref03_Inv.mono_l k
  unfold geyserref03_Inv.f
  repeat' first
      | (with_reducible exact ih0 _ _)
      | (with_reducible exact geyserref03_Mul.mono _ _ _)
      | (with_reducible exact LeO.refl _)
      | (with_reducible exact LeO.none _)
      | (with_reducible refine LeO.ite ?_ ?_)
      | (with_reducible refine LeO.bind ?_ (fun _ => ?_))
      | exact ih0 _ _
      | exact geyserref03_Mul.mono _ _ _
      | exact LeO.none _
      | refine LeO.ite ?_ ?_
      | refine LeO.bind ?_ (fun _ => ?_)
set_option maxHeartbeats 8000000 in
set_option maxRecDepth 100000 in
theorem geyserref03_Inv.calls (k : Nat) (a0 : Int) (r : Int) (w : World) (h : geyserref03_Inv.f k a0 = some r) :
    Calls Tryd.prog 41 #[.int .u8 a0] w fun e w' => e = .returned (.int .u8 r) ∧ Drawn0 w w' := by
  have H : (geyserref03_Inv.l0 k a0 0) = some r := h
  clear h
  have H' := Aside0.mk H
  clear H
  go_enter Tryd.func41, Tryd.ntmps41
  go_wp2
  go_loopg [4] k (fun kq v4 w' => ∃ (x4_1 : Int), v4 = .int .i64 x4_1 ∧ Aside0 (geyserref03_Inv.l0 kq a0 x4_1 = some r) ∧ Aside0 (kq ≤ k) ∧ Drawn0 w w')
  case atStart => exact ⟨(0), (by first | rfl | (simp; done) | (simp [*]; done)), H', ⟨Nat.le_refl _⟩, by repeat (first | exact Drawn0.refl _ | apply Drawn0.step)⟩
  case round =>
    clear H'
    obtain ⟨x4_1, rfl, HA, HK1, ⟨m1, rfl⟩⟩ := hrel
    cases gk with
    | zero => exact absurd HA.out (by simp [geyserref03_Inv.l0])
    | succ k1 =>
      have H := HA.out
      clear HA
      simp only [geyserref03_Inv.l0] at H
      by_cases c2 : x4_1 < 256
      · rw [if_pos c2] at H
        have c2b0 : decide (x4_1 < 256) = true := decide_eq_true c2
        clear c2
        replace H := Option.bind_eq_some_iff.mp H
        obtain ⟨t101, A30, H⟩ := H
        replace H : (if t101 = 1 then (some ((x4_1) % 256)) else (geyserref03_Inv.l0 k1 a0 (wrap64 (x4_1 + 1)))) = some r := H
        have A3 := Aside0.mk A30
        clear A30
        by_cases c4 : t101 = 1
        · rw [if_pos c4] at H
          have c4b0 : (t101 == 1) = true := beq_iff_eq.mpr c4
          have c4b1 : (t101 != 1) = false := bne_eq_false_iff_eq.mpr c4
          clear c4
          obtain rfl := Option.some.inj H
          go_wp2_with (first | ((with_reducible refine gate_callee (f := 13) rfl ?_); refine goesL_ (some 10) rfl rfl Tryd.func13 (by kernel_rfl) rfl #[.int .u8 a0, .int .u8 ((x4_1) % 256)] rfl (by (try simp only [List.map_toArray, List.map_cons, List.map_nil]); first | done | rfl | (simp only [List.length_drop, List.length_take]; rfl)) ?_; (with_reducible refine (geyserref03_Mul.calls k1 a0 ((x4_1) % 256) t101 _ A3.out).mono ?_); rintro e w' ⟨rfl, ⟨nd, rfl⟩⟩; refine ⟨_, rfl, ?_⟩))
          go_ret
          exact ⟨by first | rfl | (simp; done) | (simp [*]; done), by repeat (first | exact Drawn0.refl _ | apply Drawn0.step)⟩
        · rw [if_neg c4] at H
          have c4b0 : (t101 == 1) = false := beq_eq_false_iff_ne.mpr c4
          have c4b1 : (t101 != 1) = true := bne_iff_ne.mpr c4
          have H' := Aside0.mk H
          clear H
          go_wp2_with (first | ((with_reducible refine gate_callee (f := 13) rfl ?_); refine goesL_ (some 10) rfl rfl Tryd.func13 (by kernel_rfl) rfl #[.int .u8 a0, .int .u8 ((x4_1) % 256)] rfl (by (try simp only [List.map_toArray, List.map_cons, List.map_nil]); first | done | rfl | (simp only [List.length_drop, List.length_take]; rfl)) ?_; (with_reducible refine (geyserref03_Mul.calls k1 a0 ((x4_1) % 256) t101 _ A3.out).mono ?_); rintro e w' ⟨rfl, ⟨nd, rfl⟩⟩; refine ⟨_, rfl, ?_⟩))
          go_roundg k1
          case measure => have := HK1.out; omega
          case rel => exact ⟨(wrap64 (x4_1 + 1)), (by first | rfl | (simp; done) | (simp [*]; done)), H', ⟨by have := HK1.out; omega⟩, by repeat (first | exact Drawn0.refl _ | apply Drawn0.step)⟩
      · rw [if_neg c2] at H
        have c2b0 : decide (x4_1 < 256) = false := decide_eq_false c2
        clear c2
        obtain rfl := Option.some.inj H
        go_wp2
        go_ret
        exact ⟨by first | rfl | (simp; done) | (simp [*]; done), by repeat (first | exact Drawn0.refl _ | apply Drawn0.step)⟩

end Go.Proofs.YtcmigmldecacpaaDoor.QRInv
/- The reference's inverse, by looking, is the inverse. -/
namespace Go.Proofs.YtcmigmldecacpaaDoor.Pure
open Go Go.RowKit Go.Proofs.YtcmigmldecacpaaDoor.QRInv Go.Proofs.YtcmigmldecacpaaDoorW.PrintWords Go.Proofs.YtcmigmldecacpaaDoorW.PrintLast

theorem shr_u8 (b : Nat) (i : Nat) (hi : i < 8) : shr .u8 (b : Int) (IntKind.u64.wrap (i : Int)) = ((b / 2 ^ i : Nat) : Int) := by
  unfold shr
  rw [Gy.u64_wrap_id (by omega) (by omega)]
  have e : min ((i : Int)).toNat (IntKind.bits .u8) = i := by show min i 8 = i; omega
  rw [e]
  norm_cast
theorem pow_lt8 {i : Nat} (h : i < 8) : 2 ^ i ≤ 128 := by
  have : 2 ^ i ≤ 2 ^ 7 := Nat.pow_le_pow_right (by omega) (by omega)
  exact this
theorem shl_i64 {a : Nat} (ha : a < 512) (i : Nat) (hi : i < 8) : shl .i64 (a : Int) (IntKind.u64.wrap (i : Int)) = ((a * 2 ^ i : Nat) : Int) := by
  unfold shl
  rw [Gy.u64_wrap_id (by omega) (by omega)]
  have e : min ((i : Int)).toNat (IntKind.bits .i64) = i := by show min i 64 = i; omega
  rw [e]
  have h1 := pow_lt8 hi
  have h2 : a * 2 ^ i ≤ 511 * 128 := Nat.mul_le_mul (by omega) h1
  have e2 : (a : Int) * 2 ^ i = ((a * 2 ^ i : Nat) : Int) := by norm_cast
  rw [e2, Gy.wrapI64]
  omega
theorem shr_i64 (v : Nat) (i : Nat) (hi : i < 64) : shr .i64 (v : Int) (IntKind.u64.wrap (i : Int)) = ((v / 2 ^ i : Nat) : Int) := by
  unfold shr
  rw [Gy.u64_wrap_id (by omega) (by omega)]
  have e : min ((i : Int)).toNat (IntKind.bits .i64) = i := by show min i 64 = i; omega
  rw [e]
  norm_cast
theorem rm_l1 : ∀ (f v k : Nat), f ≤ 7 → v < 2 ^ 20 → f < k → geyserref03_Mul.l1 k v ((f : Int) + 7) = some ((Gy.rmulR f v % 256 : Nat) : Int) := by
  intro f
  induction f with
  | zero =>
    intro v k _ hv hk
    obtain ⟨k, rfl⟩ : ∃ m, k = m + 1 := ⟨k - 1, by omega⟩
    simp only [geyserref03_Mul.l1]
    rw [if_neg (by omega)]
    rfl
  | succ f ih =>
    intro v k hf hv hk
    obtain ⟨k, rfl⟩ : ∃ m, k = m + 1 := ⟨k - 1, by omega⟩
    have e8 : ((f + 1 : Nat) : Int) + 7 = ((f + 8 : Nat) : Int) := by omega
    rw [e8]
    simp only [geyserref03_Mul.l1]
    rw [if_pos (by omega), if_pos (by rw [Gy.u64_wrap_id (by omega) (by omega)]; omega)]
    rw [shr_i64 v (f + 8) (by omega), Gy.i64_and1 _ (Nat.lt_of_le_of_lt (Nat.div_le_self _ _) (by omega))]
    have em1 : wrap64 (((f + 8 : Nat) : Int) - 1) = (f : Int) + 7 := by rw [Gy.wrap64_id (by omega) (by omega)]; omega
    have em8 : wrap64 (((f + 8 : Nat) : Int) - 8) = (f : Int) := by rw [Gy.wrap64_id (by omega) (by omega)]; omega
    rw [em1, em8]
    have hm : Gy.rmulR (f + 1) v = Gy.rmulR f (if (v / 2 ^ (f + 8)) % 2 = 1 then v ^^^ (285 * 2 ^ f) else v) := rfl
    have e285 : shl .i64 (285 : Int) (IntKind.u64.wrap (f : Int)) = ((285 * 2 ^ f : Nat) : Int) := shl_i64 (a := 285) (by omega) f (by omega)
    have hp := pow_lt8 (i := f) (by omega)
    rw [e285, Gy.i64_xor v (285 * 2 ^ f) (by omega) (by omega)]
    by_cases h1 : (v / 2 ^ (f + 8)) % 2 = 1
    · rw [if_pos (by omega), if_pos (by rw [Gy.u64_wrap_id (by omega) (by omega)]; omega), hm, if_pos h1]
      exact ih _ _ (by omega) (Gy.xor_lt 20 hv (by omega)) (by omega)
    · rw [if_neg (by omega), hm, if_neg h1]
      exact ih _ _ (by omega) hv (by omega)
theorem rm_l0 : ∀ (f i : Nat) (a b v k : Nat), f + i = 8 → a < 256 → b < 256 → v < 2 ^ 20 → f + 9 < k →
    geyserref03_Mul.l0 k a b v i = some ((Gy.rmulR 7 (Gy.rmulV f a b v i) % 256 : Nat) : Int) := by
  intro f
  induction f with
  | zero =>
    intro i a b v k hi ha hb hv hk
    obtain ⟨k, rfl⟩ : ∃ m, k = m + 1 := ⟨k - 1, by omega⟩
    simp only [geyserref03_Mul.l0]
    rw [if_neg (by omega)]
    exact rm_l1 7 v k (by omega) hv (by omega)
  | succ f ih =>
    intro i a b v k hi ha hb hv hk
    obtain ⟨k, rfl⟩ : ∃ m, k = m + 1 := ⟨k - 1, by omega⟩
    simp only [geyserref03_Mul.l0]
    rw [if_pos (by omega), if_pos (by rw [Gy.u64_wrap_id (by omega) (by omega)]; omega)]
    rw [shr_u8 b i (by omega), Gy.u8_and1 _ (Nat.lt_of_le_of_lt (Nat.div_le_self _ _) hb)]
    have e1 : wrap64 ((i : Int) + 1) = ((i + 1 : Nat) : Int) := by rw [Gy.wrap64_id (by omega) (by omega)]; omega
    rw [e1, Gy.wrap64_id (by omega) (by omega), shl_i64 (by omega) i (by omega)]
    have hp := pow_lt8 (i := i) (by omega)
    have hav : a * 2 ^ i ≤ 255 * 128 := Nat.mul_le_mul (by omega) hp
    rw [Gy.i64_xor v (a * 2 ^ i) (by omega) (by omega)]
    have hm : Gy.rmulV (f + 1) a b v i = Gy.rmulV f a b (if (b / 2 ^ i) % 2 = 1 then v ^^^ (a * 2 ^ i) else v) (i + 1) := rfl
    by_cases h1 : (b / 2 ^ i) % 2 = 1
    · rw [if_pos (by omega), hm, if_pos h1]
      exact ih _ _ _ _ _ (by omega) ha hb (Gy.xor_lt 20 hv (by omega)) (by omega)
    · rw [if_neg (by omega), hm, if_neg h1]
      exact ih _ _ _ _ _ (by omega) ha hb hv (by omega)
theorem rmul_def (a b : Nat) : Gy.rmul a b = Gy.rmulR 7 (Gy.rmulV 8 a b 0 0) % 256 := by unfold Gy.rmul; rfl
theorem rmul {k : Nat} (hk : 18 ≤ k) {a b : Nat} (ha : a < 256) (hb : b < 256) : geyserref03_Mul.f k a b = some ((Gy.gmul a b : Nat) : Int) := by
  have h := rm_l0 8 0 a b 0 k (by omega) ha hb (by omega) (by omega)
  rw [← rmul_def, Gy.rmul_eq ha hb] at h
  exact h
theorem ginv_one {x b : Nat} (hx : x < 256) (hb : b < 256) (h0 : x ≠ 0) (h : Gy.gmul x b = 1) : b = Gy.ginv x := by
  have hi := Gy.ginv_lt hx
  have e1 : Gy.gmul (Gy.ginv x) (Gy.gmul x b) = Gy.ginv x := by rw [h]; exact Gy.gmul_one_right
  rw [← Gy.gmul_assoc hi hx, Gy.gmul_comm hi hx, Gy.gmul_ginv hx h0, Gy.gmul_one_left hb] at e1
  exact e1
theorem inv_l0 {x : Nat} (hx : x < 256) (h0 : x ≠ 0) : ∀ (d b : Nat), b + d = 256 → b ≤ Gy.ginv x → Ev (fun k => geyserref03_Inv.l0 k x b) ((Gy.ginv x : Nat) : Int) := by
  have hi := Gy.ginv_lt hx
  intro d
  induction d with
  | zero => intro b hb hle; omega
  | succ d ih =>
    intro b hb hle
    have hm : Ev (fun k => geyserref03_Mul.f k x (b : Int)) ((Gy.gmul x b : Nat) : Int) := ⟨18, fun k hk => rmul hk hx (by omega)⟩
    have hb2 : (b : Int) % 256 = b := by omega
    have hw : wrap64 ((b : Int) + 1) = ((b + 1 : Nat) : Int) := by rw [Gy.wrap64_id (by omega) (by omega)]; omega
    refine Ev.step (f := fun k => (geyserref03_Mul.f k x (b : Int)).bind fun t => if t = 1 then some (b : Int) else geyserref03_Inv.l0 k x ((b + 1 : Nat) : Int)) (fun k => ?_) (Ev.bind hm ?_)
    · simp only [geyserref03_Inv.l0]
      rw [if_pos (by omega), hb2, hw]
    · by_cases h1 : Gy.gmul x b = 1
      · have := ginv_one hx (by omega) h0 h1
        rw [h1, ← this]
        exact Ev.congr (fun n => if_pos rfl) (Ev.now _)
      · have hne : b ≠ Gy.ginv x := fun e => h1 (by rw [e]; exact Gy.gmul_ginv hx h0)
        exact Ev.congr (fun n => if_neg (by omega)) (ih (b + 1) (by omega) (by omega))
theorem inv_run {x : Nat} (hx : x < 256) (h0 : x ≠ 0) : Ev (fun k => geyserref03_Inv.f k x) ((Gy.ginv x : Nat) : Int) := inv_l0 hx h0 256 0 (by omega) (by omega)
theorem rinv_calls {x : Nat} (hx : x < 256) (h0 : x ≠ 0) (w : World) : Calls Tryd.prog 41 #[.int .u8 (x : Int)] w fun e w' => e = .returned (.int .u8 ((Gy.ginv x : Nat) : Int)) ∧ Below w.heap.size w w' := by
  obtain ⟨k, hk⟩ := inv_run hx h0
  exact (geyserref03_Inv.calls k x _ w (hk k (Nat.le_refl _))).mono fun e w' h => ⟨h.1, h.2.below⟩

end Go.Proofs.YtcmigmldecacpaaDoor.Pure
