/- The walks over package vector: the sum of the products. -/
import Derived.Test.YtcmigmldecacpaaDoorMDS0
import Derived.Test.YtcmigmldecacpaaDoorProg
import Derived.Below
import Derived.Deep.Draws
import Derived.Deep.AppendLies
import Derived.Maps.AppendAt
import Derived.OwnWalk
import Derived.Laws.BytesArg
import Derived.Laws.MakeOwn
import Derived.Laws.OwnMore
import Derived.Deep.OwnRows
import Derived.Tactics
import Derived.Lib.ConvBytes
import Derived.Laws.Slices
import Derived.WalkKit
import Derived.KernelRfl
import Derived.RowKit3
import Derived.Deep.LoopGhost
import Derived.Deep.QuietTactic
import Derived.BigQuiet
import Derived.WideLaws
import Derived.Deep.DeepCutAuto
import Derived.Deep.CutBlock
import Derived.Deep.RegionHeld3
import Derived.Laws.Rows
import Derived.Lib.AppendStr
import Derived.ArgAppend
import Derived.Laws.IdiomCopy
import Derived.OrdersHeld
import Derived.Laws.BitsLemmas
import Derived.RowKit
import Derived.Test.YtcmigmldecacpaaDoorWWords
import Derived.Test.YtcmigmldecacpaaDoorWLast
import Derived.Test.YtcmigmldecacpaaDoorWTab
import Derived.Test.YtcmigmldecacpaaDoorWFour
import Derived.Test.YtcmigmldecacpaaDoorWQPut
import Derived.Test.YtcmigmldecacpaaDoorWApart
import Derived.Test.YtcmigmldecacpaaDoorWArr
import Derived.Test.YtcmigmldecacpaaDoorWZeros
import Derived.Test.YtcmigmldecacpaaDoorWFoot
import Derived.Test.YtcmigmldecacpaaDoorWKept
import Derived.Test.YtcmigmldecacpaaDoorWShare
import Derived.Test.YtcmigmldecacpaaDoorWN
import Derived.Test.YtcmigmldecacpaaDoorWFootNe
import Derived.Test.YtcmigmldecacpaaDoorWAt
import Derived.Test.YtcmigmldecacpaaDoorWEqStruct
import Derived.Test.YtcmigmldecacpaaDoorWRepsOne
import Derived.Test.YtcmigmldecacpaaDoorWInv
import Derived.Test.YtcmigmldecacpaaDoorWInvWords
import Derived.Test.YtcmigmldecacpaaDoorWGuard
import Derived.Test.YtcmigmldecacpaaDoorWNEv
import Derived.Test.YtcmigmldecacpaaDoorWMore
import Derived.RegionTactic
import Derived.Deep.RegionWith

namespace Go.Proofs.YtcmigmldecacpaaDoor.Vec
open Go Go.RowKit Go.Proofs.YtcmigmldecacpaaDoorW.PrintWords Go.Proofs.YtcmigmldecacpaaDoorW.PrintMore

theorem add_calls (a b : Nat) (w : World) (ha : a < 256) (hb : b < 256) : Calls Tryd.prog 22 #[.int .u8 a, .int .u8 b] w fun e w' => e = .returned (.int .u8 (a ^^^ b : Nat)) ∧ w = w' := by
  have e1 := Go.u8_xor_nat a b ha hb
  clear ha hb
  go_enter Tryd.func22, Tryd.ntmps22
  go_wp2
  go_ret
  exact ⟨rfl, rfl⟩
theorem below_cell2 {w w' : World} {a : Addr} {u : Value} (hb : Below w.heap.size w w') (h : w.cell? a = some u) : w'.cell? a = some u := by
  have hlt : a.block < w.heap.size := by
    rcases Nat.lt_or_ge a.block w.heap.size with h' | h'
    · exact h'
    · simp [World.cell?, Array.getElem?_eq_none h'] at h
  rw [hb.cell hlt]; exact h
/-- the sum of the products of so many places -/
def dotN (a b : List Int) : Nat → Nat
  | 0 => 0
  | j + 1 => dotN a b j ^^^ Gy.gmul (a.getD j 0).toNat (b.getD j 0).toNat
theorem getD_at (l : List Int) (j : Nat) (hj : j < l.length) : l.getD j 0 = l[j] := by simp [List.getD_eq_getElem?_getD, hj]
theorem dotN_lt {a b : List Int} (ha : By a) (hb : By b) : ∀ j, j ≤ a.length → j ≤ b.length → dotN a b j < 256 := by
  intro j
  induction j with
  | zero => intro _ _; exact (by omega : 0 < 256)
  | succ j ih =>
    intro h1 h2
    obtain ⟨m, hm, lm⟩ := ha.at j (by omega)
    obtain ⟨p, hp, lp⟩ := hb.at j (by omega)
    show dotN a b j ^^^ Gy.gmul (a.getD j 0).toNat (b.getD j 0).toNat < 256
    rw [getD_at a j (by omega), getD_at b j (by omega), hm, hp, Int.toNat_natCast, Int.toNat_natCast]
    exact Gy.xor_lt8 (ih (by omega) (by omega)) (Gy.gmul_lt lm lp)
set_option maxHeartbeats 2000000 in
set_option maxRecDepth 100000 in
theorem dot_calls (A0 : Option Addr) (c0 : Nat) (A1 : Option Addr) (c1 n : Nat) (a b : List Int) (w : World) (h0 : ReadsInt w .u8 A0 n a) (h1 : ReadsInt w .u8 A1 n b) (ha : By a) (hb : By b) :
    Calls Tryd.prog 11 #[.slice A0 n c0, .slice A1 n c1] w fun e w' => e = .returned (.tuple #[.int .u8 (dotN a b n : Nat), .int .i64 0]) ∧ Below w.heap.size w w' := by
  have H0 := Lib.hid h0
  have H1 := Lib.hid h1
  have HB := Lib.hid (And.intro ha hb)
  clear h0 h1 ha hb
  go_enter Tryd.func11, Tryd.ntmps11
  go_wp2
  go_loopw [6, 16] (fun v6 v16 wr => ∃ j : Nat, j ≤ n ∧ v6 = .int .u8 ((dotN a b j : Nat) : Int) ∧ v16 = .int .i64 (j : Int) ∧ Gy.Hd (Below w.heap.size w wr)) (fun _ v16 _ => n - (intOf v16).toNat)
  case atStart => exact ⟨0, Nat.zero_le _, rfl, rfl, ⟨Below.refl _ _⟩⟩
  case round =>
    obtain ⟨j, hj, rfl, rfl, hx⟩ := hrel
    have l0 := H0.out.1
    have l1 := H1.out.1
    by_cases hjn : j < n
    · have t3 := j_lt hjn
      obtain ⟨m, hm, lm⟩ := HB.out.1.at j (by omega)
      obtain ⟨p, hp, lp⟩ := HB.out.2.at j (by omega)
      obtain ⟨ad, rfl, hc0⟩ := (Gy.reads_below H0.out hx.out).2.2 (by omega)
      obtain ⟨ad1, rfl, hc1⟩ := (Gy.reads_below H1.out hx.out).2.2 (by omega)
      have k0 := hc0 j hjn
      have k1 := hc1 j hjn
      have hsum : dotN a b (j + 1) = dotN a b j ^^^ Gy.gmul m p := by
        show dotN a b j ^^^ Gy.gmul (a.getD j 0).toNat (b.getD j 0).toNat = _
        rw [getD_at a j (by omega), getD_at b j (by omega), hm, hp, Int.toNat_natCast, Int.toNat_natCast]
      rw [getD_at a j (by omega), hm] at k0
      rw [getD_at b j (by omega), hp] at k1
      have HD := Lib.hid (dotN_lt HB.out.1 HB.out.2 j (by omega) (by omega))
      have HM := Lib.hid (And.intro lm lp)
      have HX := Lib.hid hx.out
      have hwj := up_wrap hjn (by have := H0.out.2.1; omega)
      have HWJ := Lib.hid hwj
      have hend := end_row hjn
      have HJ := Lib.hid hjn
      have HS := Lib.hid hsum
      clear hc0 hc1 hm hp hsum hx lm lp l0 l1
      go_wp2_with (first
        | (go_at_call 23; (with_reducible refine (mul_calls m p _ HM.out.1 HM.out.2).mono ?_); rintro e w1 ⟨rfl, e1⟩; have E1 := Lib.hid e1; clear e1)
        | (go_at_call 22; (with_reducible refine (add_calls _ _ _ HD.out (Gy.gmul_lt HM.out.1 HM.out.2)).mono ?_); rintro e w2 ⟨rfl, rfl⟩))
      rw [HWJ.out]
      exact ⟨⟨j + 1, HJ.out, by rw [HS.out], by norm_cast, ⟨HX.out.trans (E1.out.mono HX.out.size)⟩⟩, hend⟩
    · obtain rfl : j = n := Nat.le_antisymm hj (Nat.le_of_not_lt hjn)
      have t3 : decide ((j : Int) < (j : Int)) = false := by simp
      go_wp2
      go_ret2
      exact ⟨rfl, hx.out⟩
end Go.Proofs.YtcmigmldecacpaaDoor.Vec
/- Machine-made by a program of this claim: functions of the Go program as Lean functions, and that its calls do what these say. Lean checks it. -/
namespace Go.Proofs.YtcmigmldecacpaaDoor.QTrim
open Go.RowKit Go.Proofs.YtcmigmldecacpaaDoorW.PrintWords Go.Proofs.YtcmigmldecacpaaDoorW.PrintLast Go.Proofs.YtcmigmldecacpaaDoorW.PrintMore
attribute [local go_sem] max2_int min2_int max_two min_two max_three min_three max_four min_four   -- for this text's walks alone
set_option linter.unusedVariables false
set_option linter.unusedSimpArgs false



def errW : Option Int → Value
  | none => .nilIface
  | some c => .iface 0 (.int .i64 c)
theorem errW_none : errW none = .nilIface := rfl
theorem errW_some (c : Int) : errW (some c) = .iface 0 (.int .i64 c) := rfl

theorem info5 : (Tryd.prog.info? 5).map (fun i => (i.zero, i.size, i.bytes)) = some (some (.int .u8 0), 1, 1) := by kernel_rfl
-- the values' own types

end Go.Proofs.YtcmigmldecacpaaDoor.QTrim
/- Machine-made by a program of this claim: functions of the Go program as Lean functions, and that its calls do what these say. Lean checks it. -/
namespace Go.Proofs.YtcmigmldecacpaaDoor.QTrim
open Go.RowKit Go.Proofs.YtcmigmldecacpaaDoorW.PrintWords Go.Proofs.YtcmigmldecacpaaDoorW.PrintLast Go.Proofs.YtcmigmldecacpaaDoorW.PrintMore
attribute [local go_sem] max2_int min2_int max_two min_two max_three min_three max_four min_four   -- for this text's walks alone
set_option linter.unusedVariables false
set_option linter.unusedSimpArgs false

/-! ### bytes_trimLeftByte: function 30 -/
def bytes_trimLeftByte.l0 : Nat → List Int → Int → Option (List Int)
  | 0, _, _ => none
  | k + 1, x0, x1 => if (x0.length : Int) > 0 then (if 0 < (x0.length : Int) then (if (rd x0 0) = x1 then (if 1 ≤ (x0.length : Int) then (bytes_trimLeftByte.l0 k (x0.drop 1) x1) else (none)) else (if (x0.length : Int) = 0 then (some ([] : List Int)) else (some x0))) else (none)) else (if (x0.length : Int) = 0 then (some ([] : List Int)) else (some x0))
def bytes_trimLeftByte.f (k : Nat) (l0 : List Int) (a1 : Int) : Option (List Int) := bytes_trimLeftByte.l0 k l0 a1
theorem bytes_trimLeftByte.mono_l : ∀ k, (∀ y0 y1, LeO (bytes_trimLeftByte.l0 k y0 y1) (bytes_trimLeftByte.l0 (k + 1) y0 y1))
  | 0 => fun _ _ r h => by simp [bytes_trimLeftByte.l0] at h
  | k + 1 => by
    have ih0 := bytes_trimLeftByte.mono_l k
    · intro y0 y1
      unfold bytes_trimLeftByte.l0
      repeat' first
      | (with_reducible exact ih0 _ _)
      | (with_reducible exact LeO.refl _)
      | (with_reducible exact LeO.none _)
      | (with_reducible refine LeO.ite ?_ ?_)
      | (with_reducible refine LeO.bind ?_ (fun _ => ?_))
      | exact ih0 _ _
      | exact LeO.none _
      | refine LeO.ite ?_ ?_
      | refine LeO.bind ?_ (fun _ => ?_)
theorem bytes_trimLeftByte.mono : ∀ a0 a1 k, LeO (bytes_trimLeftByte.f k a0 a1) (bytes_trimLeftByte.f (k + 1) a0 a1) := by
  intro a0 a1 k
  have ih0 := bytes_trimLeftByte.mono_l k
  unfold bytes_trimLeftByte.f
  repeat' first
      | (with_reducible exact ih0 _ _)
      | (with_reducible exact LeO.refl _)
      | (with_reducible exact LeO.none _)
      | (with_reducible refine LeO.ite ?_ ?_)
      | (with_reducible refine LeO.bind ?_ (fun _ => ?_))
      | exact ih0 _ _
      | exact LeO.none _
      | refine LeO.ite ?_ ?_
      | refine LeO.bind ?_ (fun _ => ?_)
set_option maxHeartbeats 8000000 in
set_option maxRecDepth 100000 in
theorem bytes_trimLeftByte.calls (k : Nat) (P0_ : Nat → Prop) (A0 : Option Addr) (c0 : Nat) (l0 : List Int) (a1 : Int) (r : List Int) (w : World) (hs0 : Kd.V (Kd.int .u8) 5 w w.heap.size (fun k_ => P0_ k_) (.slice A0 l0.length c0) l0) (h : bytes_trimLeftByte.f k l0 a1 = some r) :
    Calls Tryd.prog 30 #[.slice A0 l0.length c0, .int .u8 a1] w fun e w' => ∃ v0_ : Value, e = .returned (v0_) ∧ Kd.V (Kd.int .u8) 5 w' w.heap.size (fun k_ => (P0_ k_ ∨ w.heap.size ≤ k_)) v0_ r ∧ Below w.heap.size w w' := by
  have HO0 := Aside0.mk (show Kd.V (Kd.int .u8) 5 w w.heap.size (fun k_ => (P0_ k_ ∨ w.heap.size ≤ k_)) (.slice A0 l0.length c0) l0 from Kd.V_mono hs0 (fun k_ hk => .inl hk))
  have HB := Aside0.mk (Below.refl w.heap.size w)
  have H : (bytes_trimLeftByte.l0 k l0 a1) = some r := h
  clear h
  have H' := Aside0.mk H
  clear H
  go_enter Tryd.func30, Tryd.ntmps30
  go_wp2
  go_loopg [0] k (fun kq v0 w' => ∃ (x0_1 : List Int), Aside0 (bytes_trimLeftByte.l0 kq x0_1 a1 = some r) ∧ Aside0 (kq ≤ k) ∧ Aside0 (Kd.V (Kd.int .u8) 5 w' w.heap.size (fun k_ => (P0_ k_ ∨ w.heap.size ≤ k_)) v0 x0_1) ∧ Aside0 (Below w.heap.size w w'))
  case atStart => exact ⟨(l0), H', ⟨Nat.le_refl _⟩, ⟨by (with_reducible repeat (first | apply Kd.V_alloc | apply Kd.V_drewN | apply Kd.V_drew)); exact HO0.out⟩, ⟨by repeat (first | (with_reducible first | exact HB.out | apply below_alloc | apply pw_below_drewN | apply below_drew1) | exact HB.out)⟩⟩
  case round =>
    clear H'
    try clear p2
    obtain ⟨x0_1, HA, HK1, HO_0, HB⟩ := hrel
    cases gk with
    | zero => exact absurd HA.out (by simp [bytes_trimLeftByte.l0])
    | succ k1 =>
      have H := HA.out
      clear HA
      simp only [bytes_trimLeftByte.l0] at H
      by_cases c3 : (x0_1.length : Int) > 0
      · rw [if_pos c3] at H
        have c3b0 : decide (0 < (x0_1.length : Int)) = true := decide_eq_true c3
        have c3b1 : decide (0 < x0_1.length) = true := decide_eq_true (by omega)
        clear c3
        by_cases c4 : 0 < (x0_1.length : Int)
        · rw [if_pos c4] at H
          have c4b0 : decide (0 < (x0_1.length : Int)) = true := decide_eq_true c4
          have c4b1 : decide (0 < x0_1.length) = true := decide_eq_true (by omega)
          clear c4
          by_cases c5 : (rd x0_1 0) = a1
          · rw [if_pos c5] at H
            have c5b0 : ((rd x0_1 0) == a1) = true := beq_iff_eq.mpr c5
            have c5b1 : ((rd x0_1 0) != a1) = false := bne_eq_false_iff_eq.mpr c5
            clear c5
            by_cases c6 : 1 ≤ (x0_1.length : Int)
            · rw [if_pos c6] at H
              have c6b0 := eq_true c6
              have c6b1 : decide (1 ≤ (x0_1.length : Int)) = true := decide_eq_true c6
              clear c6
              obtain ⟨y102, hy102⟩ : ∃ y_ : List Int, y_ = (x0_1.drop 1) := ⟨_, rfl⟩
              replace H : (bytes_trimLeftByte.l0 k1 y102 a1) = some r := by first | (rw [hy102]; with_reducible exact H) | (have H2_ := (Option.bind_some _ _).symm.trans H; rw [hy102]; with_reducible exact H2_) | (have H2_ := (Option.bind_some _ _).symm.trans H; with_reducible exact H2_) | with_reducible exact H | (rw [hy102]; exact H) | exact H
              have Ny102 := Aside0.mk hy102
              clear hy102
              have H' := Aside0.mk H
              clear H
              obtain ⟨Ao7, co7, eo7⟩ := Kd.V_slice HO_0.out
              subst eo7
              have p101 : 0 ≤ (0 : Int) := (by omega)
              have q101 : 0 < (x0_1.length : Int) := of_decide_eq_true (by first | (with_reducible assumption) | assumption)
              obtain ⟨ad101, e101, hx101_0⟩ := Kd.at_int (Kd.V_reads' HO_0.out).2.2 0 p101 q101
              cases e101
              have qi101 : (0 < x0_1.length) = True := eq_true (by omega)
              (try rw [show ((0 : Int)).toNat = 0 from rfl] at hx101_0)
              (try rw [Addr.add_zero'] at hx101_0)
              replace p101 := eq_true p101
              replace q101 := eq_true q101
              have q8 : (1 : Int) ≤ ((x0_1.length : Int) : Int) := of_decide_eq_true (by first | (with_reducible assumption) | assumption)
              obtain ⟨i08, hi08, _, hsz8, _⟩ := info_parts info5
              have hroom8 : x0_1.length ≤ co7 := (Kd.V_reads' HO_0.out).2.1
              have hC8 : Kd.F (Kd.int .u8) _ _ (some ad101) x0_1.length x0_1 := (Kd.V_at (base := w.heap.size) HO_0.out).2.2
              have hcut8 := cut_from (P := Tryd.prog) 22 5 .i64 Tryd.underlying22 hi08 1 hsz8 (some ad101) x0_1.length co7 1 (by omega) q8
              have hr8 := Kd.F_cut (m := (1 : Int).toNat) (c := co7) hC8 (by omega) hroom8
              obtain ⟨A8, hA8⟩ : ∃ A1, A1 = (if co7 = (1 : Int).toNat then (some ad101) else ((some ad101) : Option Addr).map (·.add ((1 : Int).toNat * 1))) := ⟨_, rfl⟩
              obtain ⟨c8, hc8⟩ : ∃ c1, c1 = co7 - (1 : Int).toNat := ⟨_, rfl⟩
              have hy8 : y102.length = x0_1.length - (1 : Int).toNat := (by rw [Ny102.out, List.length_drop] <;> omega)
              rw [show (x0_1).drop (1 : Int).toNat = y102 from Ny102.out.symm] at hr8
              replace hr8 : Kd.F (Kd.int .u8) _ _ A8 y102.length y102 := (by rw [hA8]; exact hr8)
              rw [← hy8, ← hA8, ← hc8] at hcut8
              have HO106 := Aside0.mk (show Kd.V (Kd.int .u8) 5 _ w.heap.size _ (.slice A8 y102.length c8) y102 from Kd.V_mk (by rw [hy8, hc8]; exact Nat.sub_le_sub_right hroom8 _) hr8)
              have HC106 := Aside0.mk (show y102.length ≤ c8 from by rw [hy8, hc8]; exact Nat.sub_le_sub_right hroom8 _)
              clear hr8 hC8 hroom8 hi08 hsz8 hc8
              have KY8 := Aside0.mk hy8
              have KA8 := Aside0.mk hA8
              clear hy8 hA8
              replace q8 := eq_true q8
              go_wp2
              go_roundg k1
              case measure => have := HK1.out; omega
              case rel => exact ⟨(y102), H', ⟨by have := HK1.out; omega⟩, ⟨by (with_reducible repeat (first | apply Kd.V_alloc | apply Kd.V_drewN | apply Kd.V_drew)); exact HO106.out⟩, ⟨by repeat (first | (with_reducible first | exact HB.out | apply below_alloc | apply pw_below_drewN | apply below_drew1) | exact HB.out)⟩⟩
            · rw [if_neg c6] at H
              exact absurd H (by simp)
          · rw [if_neg c5] at H
            have c5b0 : ((rd x0_1 0) == a1) = false := beq_eq_false_iff_ne.mpr c5
            have c5b1 : ((rd x0_1 0) != a1) = true := bne_iff_ne.mpr c5
            by_cases c9 : (x0_1.length : Int) = 0
            · rw [if_pos c9] at H
              have c9b0 : ((x0_1.length : Int) == 0) = true := beq_iff_eq.mpr c9
              have c9b1 : ((x0_1.length : Int) != 0) = false := bne_eq_false_iff_eq.mpr c9
              clear c9
              obtain rfl := Option.some.inj H
              obtain ⟨Ao10, co10, eo10⟩ := Kd.V_slice HO_0.out
              subst eo10
              have p101 : 0 ≤ (0 : Int) := (by omega)
              have q101 : 0 < (x0_1.length : Int) := of_decide_eq_true (by first | (with_reducible assumption) | assumption)
              obtain ⟨ad101, e101, hx101_0⟩ := Kd.at_int (Kd.V_reads' HO_0.out).2.2 0 p101 q101
              cases e101
              have qi101 : (0 < x0_1.length) = True := eq_true (by omega)
              (try rw [show ((0 : Int)).toNat = 0 from rfl] at hx101_0)
              (try rw [Addr.add_zero'] at hx101_0)
              replace p101 := eq_true p101
              replace q101 := eq_true q101
              go_wp2
              go_ret
              exact ⟨_, by first | rfl | (simp [errW_none, errW_some] <;> rfl) | (simp [*, errW_none, errW_some] <;> rfl), (by first | exact Kd.V_nil _ _ _ _ _ | exact Kd.V_mono (Kd.R_V (by first | exact Kd.R_nil _ _ _ _ _ | exact Kd.N_nil _ _ _ _ _ | exact Kd.V_nil _ _ _ _ _ | exact Kd.Q_nil _ _ _ _ _ | exact Kd.S_nil _ _ _ _ _)) (fun k_ hk => by first | exact ⟨(.inr (hk.1)), hk.2⟩ | exact (.inr (hk)))), by repeat (first | (with_reducible first | exact HB.out | apply below_alloc | apply pw_below_drewN | apply below_drew1) | exact HB.out)⟩
            · rw [if_neg c9] at H
              have c9b0 : ((x0_1.length : Int) == 0) = false := beq_eq_false_iff_ne.mpr c9
              have c9b1 : ((x0_1.length : Int) != 0) = true := bne_iff_ne.mpr c9
              have c9b2 : ¬ (x0_1 = []) := fun h_ => c9 (by rw [h_]; rfl)
              obtain rfl := Option.some.inj H
              obtain ⟨Ao11, co11, eo11⟩ := Kd.V_slice HO_0.out
              subst eo11
              have p101 : 0 ≤ (0 : Int) := (by omega)
              have q101 : 0 < (x0_1.length : Int) := of_decide_eq_true (by first | (with_reducible assumption) | assumption)
              obtain ⟨ad101, e101, hx101_0⟩ := Kd.at_int (Kd.V_reads' HO_0.out).2.2 0 p101 q101
              cases e101
              have qi101 : (0 < x0_1.length) = True := eq_true (by omega)
              (try rw [show ((0 : Int)).toNat = 0 from rfl] at hx101_0)
              (try rw [Addr.add_zero'] at hx101_0)
              replace p101 := eq_true p101
              replace q101 := eq_true q101
              go_wp2
              go_ret
              exact ⟨_, by first | rfl | (simp [errW_none, errW_some] <;> rfl) | (simp [*, errW_none, errW_some] <;> rfl), by (with_reducible repeat (first | apply Kd.V_alloc | apply Kd.V_drewN | apply Kd.V_drew)); exact HO_0.out, by repeat (first | (with_reducible first | exact HB.out | apply below_alloc | apply pw_below_drewN | apply below_drew1) | exact HB.out)⟩
        · rw [if_neg c4] at H
          exact absurd H (by simp)
      · rw [if_neg c3] at H
        have c3b0 : decide (0 < (x0_1.length : Int)) = false := decide_eq_false c3
        have c3b1 : decide (0 < x0_1.length) = false := decide_eq_false (by omega)
        clear c3
        by_cases c12 : (x0_1.length : Int) = 0
        · rw [if_pos c12] at H
          have c12b0 : ((x0_1.length : Int) == 0) = true := beq_iff_eq.mpr c12
          have c12b1 : ((x0_1.length : Int) != 0) = false := bne_eq_false_iff_eq.mpr c12
          clear c12
          obtain rfl := Option.some.inj H
          obtain ⟨Ao13, co13, eo13⟩ := Kd.V_slice HO_0.out
          subst eo13
          go_wp2
          go_ret
          exact ⟨_, by first | rfl | (simp [errW_none, errW_some] <;> rfl) | (simp [*, errW_none, errW_some] <;> rfl), (by first | exact Kd.V_nil _ _ _ _ _ | exact Kd.V_mono (Kd.R_V (by first | exact Kd.R_nil _ _ _ _ _ | exact Kd.N_nil _ _ _ _ _ | exact Kd.V_nil _ _ _ _ _ | exact Kd.Q_nil _ _ _ _ _ | exact Kd.S_nil _ _ _ _ _)) (fun k_ hk => by first | exact ⟨(.inr (hk.1)), hk.2⟩ | exact (.inr (hk)))), by repeat (first | (with_reducible first | exact HB.out | apply below_alloc | apply pw_below_drewN | apply below_drew1) | exact HB.out)⟩
        · rw [if_neg c12] at H
          have c12b0 : ((x0_1.length : Int) == 0) = false := beq_eq_false_iff_ne.mpr c12
          have c12b1 : ((x0_1.length : Int) != 0) = true := bne_iff_ne.mpr c12
          have c12b2 : ¬ (x0_1 = []) := fun h_ => c12 (by rw [h_]; rfl)
          obtain rfl := Option.some.inj H
          obtain ⟨Ao14, co14, eo14⟩ := Kd.V_slice HO_0.out
          subst eo14
          go_wp2
          go_ret
          exact ⟨_, by first | rfl | (simp [errW_none, errW_some] <;> rfl) | (simp [*, errW_none, errW_some] <;> rfl), by (with_reducible repeat (first | apply Kd.V_alloc | apply Kd.V_drewN | apply Kd.V_drew)); exact HO_0.out, by repeat (first | (with_reducible first | exact HB.out | apply below_alloc | apply pw_below_drewN | apply below_drew1) | exact HB.out)⟩

/-! ### bytes_trimRightByte: function 31 -/
def bytes_trimRightByte.l0 : Nat → List Int → Int → Option (List Int)
  | 0, _, _ => none
  | k + 1, x0, x1 => if (x0.length : Int) > 0 then (if 0 ≤ (wrap64 ((x0.length : Int) - 1)) then (if (wrap64 ((x0.length : Int) - 1)) < (x0.length : Int) then (if (rd x0 (wrap64 ((x0.length : Int) - 1))) = x1 then (if (wrap64 ((x0.length : Int) - 1)) ≤ (x0.length : Int) then (bytes_trimRightByte.l0 k (x0.take ((wrap64 ((x0.length : Int) - 1)) : Int).toNat) x1) else (none)) else (some x0)) else (none)) else (none)) else (some x0)
def bytes_trimRightByte.f (k : Nat) (l0 : List Int) (a1 : Int) : Option (List Int) := bytes_trimRightByte.l0 k l0 a1
theorem bytes_trimRightByte.mono_l : ∀ k, (∀ y0 y1, LeO (bytes_trimRightByte.l0 k y0 y1) (bytes_trimRightByte.l0 (k + 1) y0 y1))
  | 0 => fun _ _ r h => by simp [bytes_trimRightByte.l0] at h
  | k + 1 => by
    have ih0 := bytes_trimRightByte.mono_l k
    · intro y0 y1
      unfold bytes_trimRightByte.l0
      repeat' first
      | (with_reducible exact ih0 _ _)
      | (with_reducible exact LeO.refl _)
      | (with_reducible exact LeO.none _)
      | (with_reducible refine LeO.ite ?_ ?_)
      | (with_reducible refine LeO.bind ?_ (fun _ => ?_))
      | exact ih0 _ _
      | exact LeO.none _
      | refine LeO.ite ?_ ?_
      | refine LeO.bind ?_ (fun _ => ?_)
theorem bytes_trimRightByte.mono : ∀ a0 a1 k, LeO (bytes_trimRightByte.f k a0 a1) (bytes_trimRightByte.f (k + 1) a0 a1) := by
  intro a0 a1 k
  have ih0 := bytes_trimRightByte.mono_l k
  unfold bytes_trimRightByte.f
  repeat' first
      | (with_reducible exact ih0 _ _)
      | (with_reducible exact LeO.refl _)
      | (with_reducible exact LeO.none _)
      | (with_reducible refine LeO.ite ?_ ?_)
      | (with_reducible refine LeO.bind ?_ (fun _ => ?_))
      | exact ih0 _ _
      | exact LeO.none _
      | refine LeO.ite ?_ ?_
      | refine LeO.bind ?_ (fun _ => ?_)
set_option maxHeartbeats 8000000 in
set_option maxRecDepth 100000 in
theorem bytes_trimRightByte.calls (k : Nat) (P0_ : Nat → Prop) (A0 : Option Addr) (c0 : Nat) (l0 : List Int) (a1 : Int) (r : List Int) (w : World) (hs0 : Kd.V (Kd.int .u8) 5 w w.heap.size (fun k_ => P0_ k_) (.slice A0 l0.length c0) l0) (h : bytes_trimRightByte.f k l0 a1 = some r) :
    Calls Tryd.prog 31 #[.slice A0 l0.length c0, .int .u8 a1] w fun e w' => ∃ v0_ : Value, e = .returned (v0_) ∧ Kd.V (Kd.int .u8) 5 w' w.heap.size (fun k_ => (P0_ k_ ∨ w.heap.size ≤ k_)) v0_ r ∧ Below w.heap.size w w' := by
  have HO0 := Aside0.mk (show Kd.V (Kd.int .u8) 5 w w.heap.size (fun k_ => (P0_ k_ ∨ w.heap.size ≤ k_)) (.slice A0 l0.length c0) l0 from Kd.V_mono hs0 (fun k_ hk => .inl hk))
  have HB := Aside0.mk (Below.refl w.heap.size w)
  have H : (bytes_trimRightByte.l0 k l0 a1) = some r := h
  clear h
  have H' := Aside0.mk H
  clear H
  go_enter Tryd.func31, Tryd.ntmps31
  go_wp2
  go_loopg [0] k (fun kq v0 w' => ∃ (x0_1 : List Int), Aside0 (bytes_trimRightByte.l0 kq x0_1 a1 = some r) ∧ Aside0 (kq ≤ k) ∧ Aside0 (Kd.V (Kd.int .u8) 5 w' w.heap.size (fun k_ => (P0_ k_ ∨ w.heap.size ≤ k_)) v0 x0_1) ∧ Aside0 (Below w.heap.size w w'))
  case atStart => exact ⟨(l0), H', ⟨Nat.le_refl _⟩, ⟨by (with_reducible repeat (first | apply Kd.V_alloc | apply Kd.V_drewN | apply Kd.V_drew)); exact HO0.out⟩, ⟨by repeat (first | (with_reducible first | exact HB.out | apply below_alloc | apply pw_below_drewN | apply below_drew1) | exact HB.out)⟩⟩
  case round =>
    clear H'
    try clear p2
    obtain ⟨x0_1, HA, HK1, HO_0, HB⟩ := hrel
    cases gk with
    | zero => exact absurd HA.out (by simp [bytes_trimRightByte.l0])
    | succ k1 =>
      have H := HA.out
      clear HA
      simp only [bytes_trimRightByte.l0] at H
      by_cases c3 : (x0_1.length : Int) > 0
      · rw [if_pos c3] at H
        have c3b0 : decide (0 < (x0_1.length : Int)) = true := decide_eq_true c3
        have c3b1 : decide (0 < x0_1.length) = true := decide_eq_true (by omega)
        clear c3
        obtain ⟨ji4, hji4⟩ : ∃ j_ : Int, (wrap64 ((x0_1.length : Int) - 1)) = j_ := ⟨_, rfl⟩
        replace H : (if 0 ≤ (ji4) then (if (ji4) < (x0_1.length : Int) then (if (rd x0_1 (ji4)) = a1 then (if (ji4) ≤ (x0_1.length : Int) then (bytes_trimRightByte.l0 k1 (x0_1.take ((ji4) : Int).toNat) a1) else (none)) else (some x0_1)) else (none)) else (none)) = some r := by first | (rw [hji4] at H; exact H) | (simp only [hji4] at H ⊢; exact H)
        have hji4w : (IntKind.i64.wrap ((x0_1.length : Int) - 1)) = ji4 := (i64_w _).trans hji4
        by_cases c5 : 0 ≤ (ji4)
        · rw [if_pos c5] at H
          have c5b0 : decide (0 ≤ (ji4)) = true := decide_eq_true c5
          clear c5
          by_cases c6 : (ji4) < (x0_1.length : Int)
          · rw [if_pos c6] at H
            have c6b0 : decide ((ji4) < (x0_1.length : Int)) = true := decide_eq_true c6
            clear c6
            by_cases c7 : (rd x0_1 (ji4)) = a1
            · rw [if_pos c7] at H
              have c7b0 : ((rd x0_1 (ji4)) == a1) = true := beq_iff_eq.mpr c7
              have c7b1 : ((rd x0_1 (ji4)) != a1) = false := bne_eq_false_iff_eq.mpr c7
              clear c7
              have c8b0 := eq_true (of_decide_eq_true (by first | (with_reducible assumption) | assumption) : 0 ≤ (ji4))
              by_cases c9 : (ji4) ≤ (x0_1.length : Int)
              · rw [if_pos c9] at H
                have c9b0 := eq_true c9
                have c9b1 : decide ((ji4) ≤ (x0_1.length : Int)) = true := decide_eq_true c9
                clear c9
                obtain ⟨y108, hy108⟩ : ∃ y_ : List Int, y_ = (x0_1.take ((ji4) : Int).toNat) := ⟨_, rfl⟩
                replace H : (bytes_trimRightByte.l0 k1 y108 a1) = some r := by first | (rw [hy108]; with_reducible exact H) | (have H2_ := (Option.bind_some _ _).symm.trans H; rw [hy108]; with_reducible exact H2_) | (have H2_ := (Option.bind_some _ _).symm.trans H; with_reducible exact H2_) | with_reducible exact H | (rw [hy108]; exact H) | exact H
                have Ny108 := Aside0.mk hy108
                clear hy108
                have H' := Aside0.mk H
                clear H
                obtain ⟨Ao10, co10, eo10⟩ := Kd.V_slice HO_0.out
                subst eo10
                have p107 : 0 ≤ ((ji4) : Int) := of_decide_eq_true (by first | (with_reducible assumption) | assumption)
                have q107 : (ji4) < (x0_1.length : Int) := of_decide_eq_true (by first | (with_reducible assumption) | assumption)
                obtain ⟨ad107, e107, hx107_0⟩ := Kd.at_int (Kd.V_reads' HO_0.out).2.2 (ji4) p107 q107
                cases e107
                replace p107 := eq_true p107
                replace q107 := eq_true q107
                have q11 : ((ji4) : Int) ≤ ((x0_1.length : Int) : Int) := of_decide_eq_true (by first | (with_reducible assumption) | assumption)
                obtain ⟨i011, hi011, _, hsz11, _⟩ := info_parts info5
                have hroom11 : x0_1.length ≤ co10 := (Kd.V_reads' HO_0.out).2.1
                have hC11 : Kd.F (Kd.int .u8) _ _ (some ad107) x0_1.length x0_1 := (Kd.V_at (base := w.heap.size) HO_0.out).2.2
                have hcut11 := cut_to (P := Tryd.prog) 22 5 .i64 Tryd.underlying22 hi011 (some ad107) x0_1.length co10 (ji4) (of_decide_eq_true (by first | (with_reducible assumption) | assumption)) q11 hroom11
                have hr11 := Kd.F_take (m := ((ji4) : Int).toNat) hC11 (by omega)
                have hy11 : y108.length = ((ji4) : Int).toNat := (by rw [Ny108.out, List.length_take]; omega)
                rw [← Ny108.out] at hr11
                rw [← hy11] at hcut11
                have HO112 := Aside0.mk (show Kd.V (Kd.int .u8) 5 _ w.heap.size _ (.slice (some ad107) y108.length co10) y108 from Kd.V_mk (by omega) hr11)
                have HC112 := Aside0.mk (show y108.length ≤ co10 from by omega)
                clear hr11 hC11 hroom11 hi011 hsz11
                have KY11 := Aside0.mk hy11
                clear hy11
                replace q11 := eq_true q11
                go_wp2
                go_roundg k1
                case measure => have := HK1.out; omega
                case rel => exact ⟨(y108), H', ⟨by have := HK1.out; omega⟩, ⟨by (with_reducible repeat (first | apply Kd.V_alloc | apply Kd.V_drewN | apply Kd.V_drew)); exact HO112.out⟩, ⟨by repeat (first | (with_reducible first | exact HB.out | apply below_alloc | apply pw_below_drewN | apply below_drew1) | exact HB.out)⟩⟩
              · rw [if_neg c9] at H
                exact absurd H (by simp)
            · rw [if_neg c7] at H
              have c7b0 : ((rd x0_1 (ji4)) == a1) = false := beq_eq_false_iff_ne.mpr c7
              have c7b1 : ((rd x0_1 (ji4)) != a1) = true := bne_iff_ne.mpr c7
              obtain rfl := Option.some.inj H
              obtain ⟨Ao12, co12, eo12⟩ := Kd.V_slice HO_0.out
              subst eo12
              have p107 : 0 ≤ ((ji4) : Int) := of_decide_eq_true (by first | (with_reducible assumption) | assumption)
              have q107 : (ji4) < (x0_1.length : Int) := of_decide_eq_true (by first | (with_reducible assumption) | assumption)
              obtain ⟨ad107, e107, hx107_0⟩ := Kd.at_int (Kd.V_reads' HO_0.out).2.2 (ji4) p107 q107
              cases e107
              replace p107 := eq_true p107
              replace q107 := eq_true q107
              go_wp2
              go_ret
              exact ⟨_, by first | rfl | (simp [errW_none, errW_some] <;> rfl) | (simp only [← hji4]; first | rfl | (simp [errW_none, errW_some] <;> rfl)) | (simp [*, errW_none, errW_some] <;> rfl), by (with_reducible repeat (first | apply Kd.V_alloc | apply Kd.V_drewN | apply Kd.V_drew)); exact HO_0.out, by repeat (first | (with_reducible first | exact HB.out | apply below_alloc | apply pw_below_drewN | apply below_drew1) | exact HB.out)⟩
          · rw [if_neg c6] at H
            exact absurd H (by simp)
        · rw [if_neg c5] at H
          exact absurd H (by simp)
      · rw [if_neg c3] at H
        have c3b0 : decide (0 < (x0_1.length : Int)) = false := decide_eq_false c3
        have c3b1 : decide (0 < x0_1.length) = false := decide_eq_false (by omega)
        clear c3
        obtain rfl := Option.some.inj H
        obtain ⟨Ao13, co13, eo13⟩ := Kd.V_slice HO_0.out
        subst eo13
        go_wp2
        go_ret
        exact ⟨_, by first | rfl | (simp [errW_none, errW_some] <;> rfl) | (simp [*, errW_none, errW_some] <;> rfl), by (with_reducible repeat (first | apply Kd.V_alloc | apply Kd.V_drewN | apply Kd.V_drew)); exact HO_0.out, by repeat (first | (with_reducible first | exact HB.out | apply below_alloc | apply pw_below_drewN | apply below_drew1) | exact HB.out)⟩

-- NOT PRINTED: function 32 (bytes_makeASCIISet)

-- NOT PRINTED: function 42 (bytes_asciiSet_contains)

-- NOT PRINTED: function 33 (bytes_trimLeftASCII)

-- NOT PRINTED: function 34 (bytes_trimRightASCII)

-- NOT PRINTED: function 47 (utf8_decodeRuneSlow)

-- NOT PRINTED: function 43 (utf8_DecodeRune)

-- NOT PRINTED: function 44 (bytes_containsRune)

-- NOT PRINTED: function 35 (bytes_trimLeftUnicode)

/-! ### utf8_RuneStart: function 48 -/
def utf8_RuneStart.f (a0 : Int) : Option (Bool) := some ((Go.bits .and .u8 a0 192) != 128)
set_option maxHeartbeats 8000000 in
set_option maxRecDepth 100000 in
theorem utf8_RuneStart.calls (a0 : Int) (r : Bool) (w : World) (h : utf8_RuneStart.f a0 = some r) :
    Calls Tryd.prog 48 #[.int .u8 a0] w fun e w' => e = .returned (.bool r) ∧ Drawn0 w w' := by
  have H : (some ((Go.bits .and .u8 a0 192) != 128)) = some r := h
  clear h
  obtain rfl := Option.some.inj H
  go_enter Tryd.func48, Tryd.ntmps48
  go_wp2
  go_ret
  exact ⟨by first | rfl | (simp; done) | (simp [*]; done), by repeat (first | exact Drawn0.refl _ | apply Drawn0.step)⟩

-- NOT PRINTED: function 45 (utf8_DecodeLastRune)

-- NOT PRINTED: function 36 (bytes_trimRightUnicode)

-- NOT PRINTED: function 24 (bytes_Trim)

end Go.Proofs.YtcmigmldecacpaaDoor.QTrim
/- Machine-made by a program of this claim: functions of the Go program as Lean functions, and that its calls do what these say. Lean checks it. -/
namespace Go.Proofs.YtcmigmldecacpaaDoor.QTrim
open Go.RowKit Go.Proofs.YtcmigmldecacpaaDoorW.PrintWords Go.Proofs.YtcmigmldecacpaaDoorW.PrintLast Go.Proofs.YtcmigmldecacpaaDoorW.PrintMore
attribute [local go_sem] max2_int min2_int max_two min_two max_three min_three max_four min_four   -- for this text's walks alone
set_option linter.unusedVariables false
set_option linter.unusedSimpArgs false

end Go.Proofs.YtcmigmldecacpaaDoor.QTrim
/- Whether all is 0: bytes.Trim at the cutset of one byte, and vector.Zero, vector.Dot, in the form in which the printer asks for them. -/
namespace Go.Proofs.YtcmigmldecacpaaDoor.Giv
open Go Go.RowKit Go.Proofs.YtcmigmldecacpaaDoorW.PrintWords Go.Proofs.YtcmigmldecacpaaDoorW.PrintLast Go.Proofs.YtcmigmldecacpaaDoorW.PrintMore Go.Proofs.YtcmigmldecacpaaDoor.Vec Go.Proofs.YtcmigmldecacpaaDoor.QTrim

/-- all is 0 -/
def Nought (xs : List Int) : Prop := ∀ x ∈ xs, x = 0
theorem left_l0 : ∀ (n : Nat) (xs : List Int), xs.length ≤ n → ∃ r, bytes_trimLeftByte.l0 (n + 1) xs 0 = some r ∧ (Nought xs ↔ r = []) := by
  intro n
  induction n with
  | zero =>
    intro xs h
    obtain rfl : xs = [] := List.eq_nil_of_length_eq_zero (by omega)
    exact ⟨[], by simp [bytes_trimLeftByte.l0], ⟨fun _ => rfl, fun _ x hx => by cases hx⟩⟩
  | succ n ih =>
    intro xs h
    cases xs with
    | nil => exact ⟨[], by simp [bytes_trimLeftByte.l0], ⟨fun _ => rfl, fun _ x hx => by cases hx⟩⟩
    | cons x xs =>
      have hl : (((x :: xs).length : Nat) : Int) = (xs.length : Int) + 1 := by rw [List.length_cons]; omega
      simp only [bytes_trimLeftByte.l0]
      rw [if_pos (by omega), if_pos (by omega)]
      have e0 : rd (x :: xs) 0 = x := by simp [rd]
      rw [e0]
      by_cases h0 : x = 0
      · obtain ⟨r, h1, h2⟩ := ih xs (by simp at h; omega)
        rw [if_pos h0, if_pos (by omega)]
        refine ⟨r, h1, ?_⟩
        rw [← h2]
        constructor
        · intro h x hx; exact h x (List.mem_cons_of_mem _ hx)
        · intro h y hy
          rcases List.mem_cons.1 hy with e | e
          · rw [e]; exact h0
          · exact h y e
      · rw [if_neg h0, if_neg (by omega)]
        exact ⟨_, rfl, ⟨fun h => absurd (h x List.mem_cons_self) h0, fun h => by cases h⟩⟩
theorem right_l0 : ∀ (n : Nat) (xs : List Int), xs.length ≤ n → n ≤ 9223372036854775807 → ∃ r, bytes_trimRightByte.l0 (n + 1) xs 0 = some r ∧ (Nought xs ↔ Nought r) ∧ r.length ≤ xs.length := by
  intro n
  induction n with
  | zero =>
    intro xs h _
    obtain rfl : xs = [] := List.eq_nil_of_length_eq_zero (by omega)
    exact ⟨[], by simp [bytes_trimRightByte.l0], Iff.rfl, Nat.le_refl _⟩
  | succ n ih =>
    intro xs h hn
    by_cases hx : xs.length = 0
    · obtain rfl : xs = [] := List.eq_nil_of_length_eq_zero hx
      exact ⟨[], by simp [bytes_trimRightByte.l0], Iff.rfl, Nat.le_refl _⟩
    · simp only [bytes_trimRightByte.l0]
      have hw : wrap64 ((xs.length : Int) - 1) = ((xs.length - 1 : Nat) : Int) := by rw [Gy.wrap64_id (by omega) (by omega)]; omega
      rw [hw, if_pos (by omega), if_pos (by omega), if_pos (by omega), rd_at xs (xs.length - 1) (by omega)]
      by_cases h0 : xs[xs.length - 1] = 0
      · obtain ⟨r, h1, h2, h3⟩ := ih (xs.take (xs.length - 1)) (by rw [List.length_take]; omega) (by omega)
        rw [if_pos h0, if_pos (by omega), Int.toNat_natCast]
        refine ⟨r, h1, ?_, by rw [List.length_take] at h3; omega⟩
        rw [← h2]
        constructor
        · intro h x hx; exact h x (List.mem_of_mem_take hx)
        · intro h x hx
          obtain ⟨i, hi, rfl⟩ := List.mem_iff_getElem.1 hx
          by_cases e : i = xs.length - 1
          · subst e; exact h0
          · refine h _ (List.mem_iff_getElem.2 ⟨i, by rw [List.length_take]; omega, ?_⟩)
            rw [List.getElem_take]
      · rw [if_neg h0]
        exact ⟨_, rfl, Iff.rfl, Nat.le_refl _⟩
theorem V_of_C {A : Option Addr} {c : Nat} {xs : List Int} {w : World} {base : Nat} (h : Kd.C (Kd.int .u8) w A xs.length xs) (hc : xs.length ≤ c) : Kd.V (Kd.int .u8) 5 w base (fun _ => True) (.slice A xs.length c) xs :=
  Kd.V_mk hc (Kd.F_mono (Kd.C_F (Kd.heap_int .u8) h) (fun _ _ => trivial))
set_option maxHeartbeats 2000000 in
set_option maxRecDepth 100000 in
theorem trim_calls (A : Option Addr) (c : Nat) (xs : List Int) (w : World) (hC : Kd.C (Kd.int .u8) w A xs.length xs) (hc : xs.length ≤ c) (hl : xs.length ≤ 9223372036854775807) :
    Calls Tryd.prog 24 #[.slice A xs.length c, .string ⟨#[0]⟩] w fun e w' => ∃ A' n' c', e = .returned (.slice A' n' c') ∧ (Nought xs ↔ n' = 0) ∧ Below w.heap.size w w' := by
  by_cases h0 : xs.length = 0
  · have t1 : ((xs.length : Int) == 0) = true := by simp; exact List.eq_nil_of_length_eq_zero h0
    have hx : Nought xs := by
      obtain rfl : xs = [] := List.eq_nil_of_length_eq_zero h0
      intro x hx; cases hx
    have HX := Lib.hid hx
    clear hC hx
    go_enter Tryd.func24, Tryd.ntmps24
    go_wp2
    go_ret
    exact ⟨_, _, _, rfl, ⟨fun _ => rfl, fun _ => HX.out⟩, Below.refl _ _⟩
  · obtain ⟨r, hr, hr2, hr3⟩ := right_l0 xs.length xs (Nat.le_refl _) hl
    obtain ⟨s, hs, hs2⟩ := left_l0 r.length r (Nat.le_refl _)
    have hR : ∀ W : World, Below w.heap.size w W → Calls Tryd.prog 31 #[.slice A xs.length c, .int .u8 0] W fun e w' => ∃ A' c', e = .returned (.slice A' r.length c') ∧ (Kd.V (Kd.int .u8) 5 w' W.heap.size (fun _ => True) (.slice A' r.length c') r ∧ Below w.heap.size w w') := fun W hW =>
      (bytes_trimRightByte.calls (xs.length + 1) (fun _ => True) A c xs 0 r W (V_of_C (Kd.C_below hC hW) hc) hr).mono fun e w' ⟨v, h1, h2, h3⟩ => by
        obtain ⟨A', c', rfl⟩ := Kd.V_slice h2
        exact ⟨A', c', h1, Kd.V_mono h2 (fun _ _ => trivial), hW.trans (h3.mono hW.size)⟩
    have hL : ∀ (W : World) (A1 : Option Addr) (c1 b1 : Nat), Below w.heap.size w W → Kd.V (Kd.int .u8) 5 W b1 (fun _ => True) (.slice A1 r.length c1) r → Calls Tryd.prog 30 #[.slice A1 r.length c1, .int .u8 0] W fun e w' => ∃ A' c', e = .returned (.slice A' s.length c') ∧ Below w.heap.size w w' := fun W A1 c1 b1 hW hV =>
      (bytes_trimLeftByte.calls (r.length + 1) (fun _ => True) A1 c1 r 0 s W hV hs).mono fun e w' ⟨v, h1, h2, h3⟩ => by
        obtain ⟨A', c', rfl⟩ := Kd.V_slice h2
        exact ⟨A', c', h1, hW.trans (h3.mono hW.size)⟩
    have HR := Lib.hid hR
    have HL := Lib.hid hL
    have HN := Lib.hid (show Nought xs ↔ s.length = 0 by rw [hr2, hs2]; exact ⟨fun h => by rw [h]; rfl, fun h => List.eq_nil_of_length_eq_zero h⟩)
    have t1 : ((xs.length : Int) == 0) = false := by simp; intro h; exact h0 (by rw [h]; rfl)
    clear hC hR hL hr hr2 hr3 hs hs2 h0
    go_enter Tryd.func24, Tryd.ntmps24
    go_wp2
    go_region_with (first
      | (go_at_call 31; refine (HR.out _ (Gy.drew_below _)).mono ?_; rintro e w1 ⟨A1, c1, rfl, e1⟩; have E1 := Lib.hid e1; clear e1)
      | (go_at_call 30; refine (HL.out _ _ _ _ E1.out.2 E1.out.1).mono ?_; rintro e w2 ⟨A2, c2, rfl, e2⟩; have E2 := Lib.hid e2; clear e2))
    all_goals
      go_wp2
      go_ret
      exact ⟨_, _, _, rfl, HN.out, E2.out⟩
/-! ### vector.Zero, vector.Dot -/
instance (xs : List Int) : Decidable (Nought xs) := by unfold Nought; infer_instance
def vector_Zero.f (l0 : List Int) : Option Bool := if l0.length ≤ 100000 then some (decide (Nought l0)) else none
theorem vector_Zero.calls (A0 : Option Addr) (c0 : Nat) (l0 : List Int) (r : Bool) (w : World) (hr0 : Kd.C (Kd.int .u8) w A0 l0.length l0) (hc0 : l0.length ≤ c0) (h : vector_Zero.f l0 = some r) :
    Calls Tryd.prog 12 #[.slice A0 l0.length c0] w fun e w' => e = .returned (.bool r) ∧ Below w.heap.size w w' := by
  unfold vector_Zero.f at h
  split at h
  · rename_i hl
    obtain rfl := Option.some.inj h
    have H := Lib.hid (trim_calls A0 c0 l0 w hr0 hc0 (by omega))
    clear hr0 hc0 h hl
    by_cases hN : Nought l0
    · have e : decide (Nought l0) = true := decide_eq_true hN
      have HN := Lib.hid hN
      rw [e]
      clear hN e
      go_enter Tryd.func12, Tryd.ntmps12
      go_wp2_with (go_at_call 24; (with_reducible refine H.out.mono ?_); rintro e w1 ⟨A', n', c', rfl, h1, h2⟩; obtain rfl : n' = 0 := h1.1 HN.out; have H2 := Lib.hid h2; clear h1 h2)
      go_ret
      exact ⟨rfl, H2.out⟩
    · have e : decide (Nought l0) = false := decide_eq_false hN
      have HN := Lib.hid hN
      rw [e]
      clear hN e
      go_enter Tryd.func12, Tryd.ntmps12
      go_wp2_with (go_at_call 24; (with_reducible refine H.out.mono ?_); rintro e w1 ⟨A', n', c', rfl, h1, h2⟩; have t1 : ((n' : Int) == 0) = false := (by simp; intro h; exact HN.out (h1.2 (by omega))); have H2 := Lib.hid h2; clear h1 h2)
      go_ret
      exact ⟨rfl, H2.out⟩
  · cases h
def vector_Dot.f (l0 l1 : List Int) : Option (Int × Int) :=
  if l0.length = l1.length then (if l0.length ≤ 100000 ∧ okB l0 = true ∧ okB l1 = true then some (((dotN l0 l1 l0.length : Nat) : Int), 0) else none) else some (0, 1)
theorem dot_apart (A0 : Option Addr) (n0 c0 : Nat) (A1 : Option Addr) (n1 c1 : Nat) (w : World) (h : n0 ≠ n1) :
    Calls Tryd.prog 11 #[.slice A0 n0 c0, .slice A1 n1 c1] w fun e w' => e = .returned (.tuple #[.int .u8 0, .int .i64 1]) ∧ w = w' := by
  have t1 : ((n0 : Int) == (n1 : Int)) = false := by simp; omega
  have t2 : (n0 == n1) = false := by simp; exact h
  have t3 : ((n0 : Int) != (n1 : Int)) = true := by simp; omega
  clear h
  go_enter Tryd.func11, Tryd.ntmps11
  go_wp2
  go_ret2
  exact ⟨rfl, rfl⟩
theorem vector_Dot.calls (A0 : Option Addr) (c0 : Nat) (l0 : List Int) (A1 : Option Addr) (c1 : Nat) (l1 : List Int) (r1 r2 : Int) (w : World) (hr0 : Kd.C (Kd.int .u8) w A0 l0.length l0) (_hc0 : l0.length ≤ c0) (hr1 : Kd.C (Kd.int .u8) w A1 l1.length l1) (_hc1 : l1.length ≤ c1) (h : vector_Dot.f l0 l1 = some (r1, r2)) :
    Calls Tryd.prog 11 #[.slice A0 l0.length c0, .slice A1 l1.length c1] w fun e w' => e = .returned (.tuple #[.int .u8 r1, .int .i64 r2]) ∧ Below w.heap.size w w' := by
  unfold vector_Dot.f at h
  split at h
  · rename_i hl
    split at h
    · rename_i hc
      obtain ⟨h1, h2, h3⟩ := hc
      obtain ⟨rfl, rfl⟩ := Prod.mk.inj (Option.some.inj h)
      have k1 := Gy.reads_of_kd hr1
      rw [← hl] at k1 ⊢
      exact dot_calls A0 c0 A1 c1 l0.length l0 l1 w (Gy.reads_of_kd hr0) k1 (okB_by h2) (okB_by h3)
    · cases h
  · rename_i hl
    obtain ⟨rfl, rfl⟩ := Prod.mk.inj (Option.some.inj h)
    exact (dot_apart A0 _ c0 A1 _ c1 w hl).mono fun e w' ⟨h1, h2⟩ => ⟨h1, by subst h2; exact Below.refl _ _⟩
end Go.Proofs.YtcmigmldecacpaaDoor.Giv
/- A region that draws its order, all orders at once, with stores: what holds of the world may hang on what has been done. -/
namespace Gy.FlowL
open Go Go.RowKit
set_option linter.unusedVariables false

/-- what operation j has yielded -/
def At (ops : Array Oper) (a : Act) (j : Nat) : Value := match (ops[j]?).bind (·.dst) with
  | some d => a.tmps.getD d undef
  | none => undef
/-- an act of this region: only its own slots have turned -/
structure Same (ops : Array Oper) (a a' : Act) : Prop where
  defers : a'.defers = a.defers
  size : a'.tmps.size = a.tmps.size
  other : ∀ t, (∀ (j : Nat) (o : Oper), ops[j]? = some o → o.dst ≠ some t) → a'.tmps.getD t undef = a.tmps.getD t undef
/-- each operation writes a slot of its own, and waits for elder ones alone -/
def flowB (ops : Array Oper) (n : Nat) : Bool :=
  (List.range ops.size).all fun i => match ops[i]? with
    | none => true
    | some o => (match o.dst with | some d => decide (d < n) | none => true) &&
        (o.dst.isNone || (List.range i).all fun j => match ops[j]? with | some p => p.dst != o.dst | none => true) &&
        o.after.all fun e => !Region.binds .any e || decide (e.on < i)
section
variable {P : Program} {ops : Array Oper} {Q : Exit → Act → World → Prop} {a a' : Act} {n : Nat}
theorem flow_at (h : flowB ops n = true) {i : Nat} {o : Oper} (ho : ops[i]? = some o) : (∀ d, o.dst = some d → d < n) ∧ (∀ j p d, j < i → ops[j]? = some p → o.dst = some d → p.dst ≠ some d) ∧ (∀ e ∈ o.after, Region.binds .any e = true → e.on < i) := by
  have hi : i < ops.size := (Array.getElem?_eq_some_iff.1 ho).1
  have h1 := List.all_eq_true.1 h i (List.mem_range.2 hi)
  rw [ho] at h1
  simp only [Bool.and_eq_true] at h1
  obtain ⟨⟨h1, h2⟩, h3⟩ := h1
  refine ⟨fun d hd => ?_, fun j p d hj hp hd => ?_, fun e he => ?_⟩
  · rw [hd] at h1; exact of_decide_eq_true h1
  · rw [hd] at h2
    simp only [Option.isNone_some, Bool.false_or] at h2
    have := List.all_eq_true.1 h2 j (List.mem_range.2 hj)
    rw [hp] at this
    simpa using this
  · have := Array.all_eq_true_iff_forall_mem.1 h3 e he
    intro hbe
    simpa [hbe] using this
theorem flow_ne (h : flowB ops n = true) {i j : Nat} {o p : Oper} {d : Tmp} (ho : ops[i]? = some o) (hp : ops[j]? = some p) (hne : i ≠ j) (hd : o.dst = some d) : p.dst ≠ some d := by
  rcases Nat.lt_or_gt_of_ne hne with h1 | h1
  · intro e
    exact (flow_at h hp).2.1 i o d h1 ho e hd
  · exact (flow_at h ho).2.1 j p d h1 hp hd
theorem put_getD_ne {a : Act} {d : Option Tmp} {t : Tmp} (v : Value) (h : d ≠ some t) : (a.put d v).tmps.getD t undef = a.tmps.getD t undef := by
  cases d with
  | none => rfl
  | some d =>
    have hne : d ≠ t := fun e => h (by rw [e])
    simp [Act.put, Array.getElem?_setIfInBounds_ne hne]
theorem put_getD {a : Act} {d : Tmp} (v : Value) (h : d < a.tmps.size) : (a.put (some d) v).tmps.getD d undef = v := by
  simp [Act.put, h]
theorem put_size {a : Act} {d : Option Tmp} (v : Value) : (a.put d v).tmps.size = a.tmps.size := by cases d <;> simp [Act.put]
theorem put_defers {a : Act} {d : Option Tmp} (v : Value) : (a.put d v).defers = a.defers := by cases d <;> rfl
theorem at_put_ne (h : flowB ops n = true) {i j : Nat} {o : Oper} (ho : ops[i]? = some o) (hne : i ≠ j) (v : Value) : At ops (a.put o.dst v) j = At ops a j := by
  unfold At
  cases hp : ops[j]? with
  | none => rfl
  | some p =>
    cases hpd : p.dst with
    | none => simp [hpd]
    | some d =>
      simp only [Option.bind_some, hpd]
      refine put_getD_ne v (fun e => ?_)
      exact flow_ne h hp ho (fun e => hne e.symm) hpd e
theorem at_put (h : flowB ops n = true) {i : Nat} {o : Oper} (ho : ops[i]? = some o) (hn : a.tmps.size = n) (v : Value) : At ops (a.put o.dst v) i = if o.dst = none then undef else v := by
  unfold At
  cases hd : o.dst with
  | none => simp [ho, hd]
  | some d =>
    have hlt := (flow_at h ho).1 d hd
    simp only [ho, Option.bind_some, hd]
    rw [if_neg (by simp)]
    exact put_getD v (hn ▸ hlt)
theorem same_put {i : Nat} {o : Oper} (ho : ops[i]? = some o) (hs : Same ops a a') (v : Value) : Same ops a (a'.put o.dst v) :=
  ⟨(put_defers v).trans hs.defers, (put_size v).trans hs.size, fun t ht => (put_getD_ne v (ht i o ho)).trans (hs.other t ht)⟩
def add (L : Nat → Bool) (i : Nat) : Nat → Bool := fun j => if j = i then true else L j
/-- one operation, out of what it waits for; a store yields nothing -/
def StepOk (P : Program) (ops : Array Oper) (Q : Exit → Act → World → Prop) (V : Value → World → Prop) (J : World → Prop) (E : World → World → Prop) (o : Oper) (a : Act) (w : World) : Prop :=
  ∀ K : Act → World → Prop, (∀ v w', V (if o.dst = none then undef else v) w' → J w' → E w w' → K (a.put o.dst v) w') → if Region.wanted o (yielded ops a.tmps) = true then Oper.wp P o a w K Q else K (a.put o.dst undef) w
def waits (o : Oper) (j : Nat) : Bool := o.after.any fun e => Region.binds .any e && e.on == j
/-- what is done when operation o comes up -/
structure Done (ops : Array Oper) (V : Nat → Value → World → Prop) (J : (Nat → Bool) → World → Prop) (a : Act) (i : Nat) (o : Oper) (L : Nat → Bool) (a' : Act) (w : World) : Prop where
  not : L i = false
  waits : ∀ j, waits o j = true → L j = true
  down : ∀ j p, ops[j]? = some p → L j = true → ∀ k, FlowL.waits p k = true → L k = true
  same : Same ops a a'
  J : J L w
  V : ∀ j, j < ops.size → L j = true → V j (At ops a' j) w
theorem setB {l : Array Bool} {i j : Nat} (hj : j < l.size) : (l.setIfInBounds i true)[j]'(by simpa using hj) = (if i = j then true else l[j]) := by
  rw [Array.getElem_setIfInBounds]
theorem flow_any (V : Nat → Value → World → Prop) (J : (Nat → Bool) → World → Prop) (E : World → World → Prop) (hd : flowB ops a.tmps.size = true) (hV : ∀ i v w w', V i v w → E w w' → V i v w')
    (hstep : ∀ i o, ops[i]? = some o → ∀ L a' w, Done ops V J a i o L a' w → StepOk P ops Q (V i) (J (add L i)) E o a' w)
    (hend : ∀ L a' w, Same ops a a' → J L w → (∀ i, i < ops.size → L i = true) → (∀ i, i < ops.size → V i (At ops a' i) w) → Q .normal a' w) :
    ∀ (fuel : Nat) (listed : Array Bool) (L : Nat → Bool) (a' : Act) (w : World), listed.size = ops.size → ops.size ≤ fuel + listed.toList.countP id → (∀ i, L i = listed.getD i false) → Same ops a a' → J L w →
      (∀ j p, ops[j]? = some p → L j = true → ∀ k, waits p k = true → L k = true) → (∀ i, i < ops.size → L i = true → V i (At ops a' i) w) → wpAny P .any ops Q fuel listed a' w := by
  intro fuel
  have hready : ∀ (listed : Array Bool) i, i ∈ Region.ready .any ops listed → ∃ o, ops[i]? = some o ∧ listed.getD i true = false ∧ ∀ e ∈ o.after, Region.binds .any e = true → listed.getD e.on false = true := by
    intro listed i hi
    unfold Region.ready at hi
    obtain ⟨h1, h2⟩ := List.mem_filter.1 hi
    simp only [Bool.and_eq_true, Bool.not_eq_true'] at h2
    have hlt := List.mem_range.1 h1
    refine ⟨ops[i], Array.getElem?_eq_getElem hlt, h2.1, fun e he hb => ?_⟩
    have h3 := h2.2
    rw [Array.getElem?_eq_getElem hlt] at h3
    simp only [Option.map_some, Option.getD_some] at h3
    have := Array.all_eq_true_iff_forall_mem.1 h3 e he
    simpa [hb] using this
  have hall : ∀ (listed : Array Bool) (L : Nat → Bool) a' w, listed.size = ops.size → (∀ i, L i = listed.getD i false) → Same ops a a' → J L w → (∀ i, i < ops.size → L i = true → V i (At ops a' i) w) → Region.ready .any ops listed = [] → Q .normal a' w := by
    intro listed L a' w hsz hL hs hJ hl hr
    have key : ∀ i (h : i < listed.size), listed[i] = true := by
      intro i
      induction i using Nat.strongRecOn with
      | _ i ih =>
        intro h
        cases hb : listed[i] with
        | true => rfl
        | false =>
          exfalso
          have hi : i < ops.size := by omega
          have : i ∈ Region.ready .any ops listed := by
            unfold Region.ready
            refine List.mem_filter.2 ⟨List.mem_range.2 hi, ?_⟩
            rw [Array.getElem?_eq_getElem hi]
            simp only [Option.map_some, Option.getD_some, Bool.and_eq_true, Bool.not_eq_true']
            refine ⟨by simp [h, hb], Array.all_eq_true_iff_forall_mem.2 fun e he => ?_⟩
            by_cases hbe : Region.binds .any e = true
            · have hlt := (flow_at hd (Array.getElem?_eq_getElem hi)).2.2 e he hbe
              have h2 : e.on < listed.size := by omega
              simp [ih e.on hlt h2, h2]
            · simp [hbe]
          rw [hr] at this
          cases this
    have hLt : ∀ i, i < ops.size → L i = true := fun i hi => by
      rw [hL]
      have h1 : i < listed.size := by omega
      simp [h1, key i h1]
    exact hend L a' w hs hJ hLt (fun i hi => hl i hi (hLt i hi))
  induction fuel with
  | zero =>
    intro listed L a' w hsz hc hL hs hJ hdn hl
    have hz : listed.toList.countP id = listed.toList.length := by
      have := List.countP_le_length (p := id) (l := listed.toList)
      simp only [Array.length_toList] at this ⊢
      omega
    have ht := List.countP_eq_length.1 hz
    have hr : Region.ready .any ops listed = [] := by
      rw [List.eq_nil_iff_forall_not_mem]
      intro i hi
      obtain ⟨o, ho, hf, _⟩ := hready listed i hi
      have hlt : i < listed.size := by have := (Array.getElem?_eq_some_iff.1 ho).1; omega
      have : listed[i] = true := ht _ (by simp)
      simp [hlt, this] at hf
    exact ⟨hr, hall listed L a' w hsz hL hs hJ hl hr⟩
  | succ fuel ih =>
    intro listed L a' w hsz hc hL hs hJ hdn hl
    refine ⟨hall listed L a' w hsz hL hs hJ hl, fun i hi => ?_⟩
    obtain ⟨o, ho, hf, haft⟩ := hready listed i hi
    have hlt : i < listed.size := by have := (Array.getElem?_eq_some_iff.1 ho).1; omega
    have hfi : listed[i] = false := by simpa [hlt] using hf
    have hLi : L i = false := by rw [hL]; simp [hlt, hfi]
    have hw : ∀ j, waits o j = true → L j = true := by
      intro j hj
      unfold waits at hj
      obtain ⟨e, he, hb⟩ := Array.any_eq_true'.1 hj
      simp only [Bool.and_eq_true, beq_iff_eq] at hb
      obtain ⟨hb1, rfl⟩ := hb
      rw [hL]
      exact haft e he hb1
    have hLs : ∀ j, add L i j = (listed.setIfInBounds i true).getD j false := by
      intro j
      unfold add
      by_cases e : j = i
      · subst e
        simp [hlt]
      · rw [if_neg e, hL]
        simp [Array.getElem?_setIfInBounds_ne (fun h => e h.symm)]
    refine wpOp_step ho ?_
    refine fun K hK => hstep i o ho L a' w ⟨hLi, hw, hdn, hs, hJ, hl⟩ K fun v w' hv hJ' hb => hK _ _ (ih _ (add L i) _ _ (by simpa using hsz) ?_ hLs (same_put ho hs v) hJ' (fun j p hp hj k hk => ?_) fun j h hj => ?_)
    · have hcs : (listed.setIfInBounds i true).toList.countP id = listed.toList.countP id + 1 := by
        rw [Array.toList_setIfInBounds, List.countP_set (by simpa using hlt)]
        have : listed.toList[i]'(by simpa using hlt) = false := by simpa using hfi
        simp [this]
      omega
    · unfold add at hj ⊢
      by_cases e : k = i
      · rw [if_pos e]
      · rw [if_neg e]
        by_cases e2 : j = i
        · subst e2
          rw [ho] at hp
          injection hp with hp
          subst hp
          exact hw k hk
        · rw [if_neg e2] at hj
          exact hdn j p hp hj k hk
    · by_cases e : i = j
      · subst e
        rw [at_put hd ho hs.size v]
        exact hv
      · have hj' : L j = true := by
          unfold add at hj
          rwa [if_neg (fun h => e h.symm)] at hj
        rw [at_put_ne hd ho e v]
        exact hV j _ w w' (hl j h hj') hb
/-- The region, all orders at once. -/
theorem flow {id : Nat} {w : World} (hm : P.follows .mixedOrders = true) (V : Nat → Value → World → Prop) (J : (Nat → Bool) → World → Prop) (E : World → World → Prop) (hd : flowB ops a.tmps.size = true) (hJ : J (fun _ => false) w.drew)
    (hV : ∀ i v w w', V i v w → E w w' → V i v w')
    (hstep : ∀ i o, ops[i]? = some o → ∀ L a' w, Done ops V J a i o L a' w → StepOk P ops Q (V i) (J (add L i)) E o a' w)
    (hend : ∀ L a' w, Same ops a a' → J L w → (∀ i, i < ops.size → L i = true) → (∀ i, i < ops.size → V i (At ops a' i) w) → Q .normal a' w) : (Code.region id ops true).wp P Q a w := by
  refine wp_region_any hm (flow_any V J E hd hV hstep hend ops.size _ (fun _ => false) a _ (by simp) (by omega) (fun i => ?_) ⟨rfl, rfl, fun _ _ => rfl⟩ hJ (fun j p _ h => by cases h) fun i h hi => by cases hi)
  by_cases h : i < ops.size <;> simp [h]
end
/-- the act, written out -/
def puts : Act → List Oper → (Nat → Value) → Nat → Act
  | a, [], _, _ => a
  | a, o :: l, vs, k => puts (a.put o.dst (vs k)) l vs (k + 1)
section
variable {ops : Array Oper} {a a' : Act} {n : Nat}
theorem puts_size : ∀ (l : List Oper) (a : Act) (vs : Nat → Value) (k : Nat), (puts a l vs k).tmps.size = a.tmps.size
  | [], _, _, _ => rfl
  | o :: l, a, vs, k => (puts_size l _ vs (k + 1)).trans (put_size _)
theorem puts_defers : ∀ (l : List Oper) (a : Act) (vs : Nat → Value) (k : Nat), (puts a l vs k).defers = a.defers
  | [], _, _, _ => rfl
  | o :: l, a, vs, k => (puts_defers l _ vs (k + 1)).trans (put_defers _)
theorem puts_none (t : Tmp) : ∀ (l : List Oper) (a : Act) (vs : Nat → Value) (k : Nat), (∀ o ∈ l, o.dst ≠ some t) → (puts a l vs k).tmps.getD t undef = a.tmps.getD t undef
  | [], _, _, _, _ => rfl
  | o :: l, a, vs, k, h => (puts_none t l _ vs (k + 1) (fun p hp => h p (List.mem_cons_of_mem _ hp))).trans (put_getD_ne _ (h o List.mem_cons_self))
theorem puts_at (t : Tmp) : ∀ (l : List Oper) (a : Act) (vs : Nat → Value) (k i : Nat) (o : Oper), l[i]? = some o → o.dst = some t → (∀ j p, i < j → l[j]? = some p → p.dst ≠ some t) → t < a.tmps.size → (puts a l vs k).tmps.getD t undef = vs (k + i)
  | [], _, _, _, _, _, h, _, _, _ => by simp at h
  | p :: l, a, vs, k, 0, o, h, hd, hl, ht => by
    simp only [List.getElem?_cons_zero, Option.some.injEq] at h
    subst h
    refine (puts_none t l _ vs (k + 1) (fun q hq => ?_)).trans (by rw [hd]; exact put_getD _ ht)
    obtain ⟨j, hj⟩ := List.getElem?_of_mem hq
    exact hl (j + 1) q (by omega) (by simpa using hj)
  | p :: l, a, vs, k, i + 1, o, h, hd, hl, ht => by
    have := puts_at t l (a.put p.dst (vs k)) vs (k + 1) i o (by simpa using h) hd (fun j q hj hq => hl (j + 1) q (by omega) (by simpa using hq)) (by rw [put_size]; exact ht)
    rw [show k + (i + 1) = k + 1 + i from by omega]
    exact this
theorem same_puts (hd : flowB ops a.tmps.size = true) (hs : Same ops a a') : a' = puts a ops.toList (At ops a') 0 := by
  have h1 : a'.defers = (puts a ops.toList (At ops a') 0).defers := hs.defers.trans (puts_defers _ _ _ _).symm
  have h2 : a'.tmps = (puts a ops.toList (At ops a') 0).tmps := by
    apply Array.ext
    · rw [hs.size, puts_size]
    · intro t h3 h4
      have g3 : a'.tmps[t] = a'.tmps.getD t undef := by simp [h3]
      have g4 : (puts a ops.toList (At ops a') 0).tmps[t] = (puts a ops.toList (At ops a') 0).tmps.getD t undef := by simp [h4]
      rw [g3, g4]
      by_cases hex : ∃ (i : Nat) (o : Oper), ops[i]? = some o ∧ o.dst = some t
      · obtain ⟨i, o, ho, hdo⟩ := hex
        have ht : t < a.tmps.size := by rw [hs.size] at h3; exact h3
        rw [puts_at t ops.toList a (At ops a') 0 i o (by simpa using ho) hdo (fun j p hj hp => by
          have hp' : ops[j]? = some p := by simpa using hp
          exact flow_ne hd ho hp' (by omega) hdo) ht, Nat.zero_add]
        unfold At
        simp only [ho, Option.bind_some, hdo]
      · rw [puts_none t ops.toList a (At ops a') 0 (fun o ho hdo => by
          obtain ⟨i, hi⟩ := List.getElem?_of_mem ho
          exact hex ⟨i, o, by simpa using hi, hdo⟩)]
        exact hs.other t (fun j o ho hdo => hex ⟨j, o, ho, hdo⟩)
  cases a' with
  | mk t d =>
    cases hp : puts a ops.toList (At ops ⟨t, d⟩) 0 with
    | mk t2 d2 =>
      rw [hp] at h1 h2
      simp only at h1 h2
      subst h1 h2
      rfl
end
/-- what each operation's fact needs: that it stays -/
def MonoAll (E : World → World → Prop) : List (Value → World → Prop) → Prop
  | [] => True
  | V :: l => (∀ v w w', V v w → E w w' → V v w') ∧ MonoAll E l
theorem mono_list {E : World → World → Prop} : ∀ (l : List (Value → World → Prop)), MonoAll E l → ∀ (i : Nat) (v : Value) (w w' : World), l.getD i (fun _ _ => True) v w → E w w' → l.getD i (fun _ _ => True) v w'
  | [], _, i, v, w, w', h, hb => by simp
  | V :: l, hl, 0, v, w, w', h, hb => hl.1 v w w' h hb
  | V :: l, hl, i + 1, v, w, w', h, hb => mono_list l hl.2 i v w w' h hb
/-- every operation of a list, with its number -/
def AllFrom (C : Nat → Oper → Prop) : Nat → List Oper → Prop
  | _, [] => True
  | k, o :: l => C k o ∧ AllFrom C (k + 1) l
theorem allFrom_at {C : Nat → Oper → Prop} : ∀ (l : List Oper) (k : Nat), AllFrom C k l → ∀ (i : Nat) (o : Oper), l[i]? = some o → C (k + i) o
  | [], _, _, i, o, h => by simp at h
  | p :: l, k, h, i, o, ho => by
    cases i with
    | zero =>
      simp only [List.getElem?_cons_zero, Option.some.injEq] at ho
      subst ho
      exact h.1
    | succ i =>
      have := allFrom_at l (k + 1) h.2 i o (by simpa using ho)
      rw [show k + (i + 1) = k + 1 + i from by omega]
      exact this
theorem of_allFrom {C : Nat → Oper → Prop} {l : List Oper} (h : AllFrom C 0 l) : ∀ (i : Nat) (o : Oper), l.toArray[i]? = some o → C i o := fun i o ho => by
  have := allFrom_at l 0 h i o (by simpa using ho)
  rwa [Nat.zero_add] at this
def noDst (ops : Array Oper) (t : Tmp) : Bool := ops.all fun o => o.dst != some t
section
variable {P : Program} {ops : Array Oper} {Q : Exit → Act → World → Prop} {a a' : Act} {n : Nat}
theorem Same.at_other (hs : Same ops a a') (t : Tmp) (h : noDst ops t = true) : a'.eval (.tmp t) = a.tmps.getD t undef :=
  hs.other t fun j o ho => by
    have := Array.all_eq_true_iff_forall_mem.1 h o (Array.mem_of_getElem? ho)
    simpa using this
theorem Done.at {V : Nat → Value → World → Prop} {J : (Nat → Bool) → World → Prop} {i : Nat} {o : Oper} {L : Nat → Bool} {w : World} (h : Done ops V J a i o L a' w) (j : Nat) (hj : (FlowL.waits o j && decide (j < ops.size)) = true) : V j (At ops a' j) w := by
  simp only [Bool.and_eq_true, decide_eq_true_eq] at hj
  exact h.V j hj.2 (h.waits j hj.1)
/-- not done: it waits for this one -/
theorem Done.later {V : Nat → Value → World → Prop} {J : (Nat → Bool) → World → Prop} {i : Nat} {o : Oper} {L : Nat → Bool} {w : World} (h : Done ops V J a i o L a' w) (j : Nat) (hj : ((ops[j]?).map fun p => FlowL.waits p i) = some true) : L j = false := by
  obtain ⟨p, hp, hw⟩ := Option.map_eq_some_iff.1 hj
  cases hl : L j with
  | false => rfl
  | true =>
    have := h.down j p hp hl i hw
    rw [h.not] at this
    cases this
section
variable {V : Value → World → Prop} {J : World → Prop} {E : World → World → Prop} {o : Oper} {w : World} {v : Value}
theorem wanted_none (h : o.guard = none) : Region.wanted o (yielded ops a.tmps) = true := by simp [Region.wanted, h]
theorem yielded_of {g : Nat} {b : Bool} (h : At ops a g = .bool b) : yielded ops a.tmps g = some b := by
  unfold At at h
  unfold yielded
  cases hd : (ops[g]?).bind (·.dst) with
  | none => rw [hd] at h; cases h
  | some d =>
    rw [hd] at h
    simp only [Option.bind_some]
    simp only [Array.getD_eq_getD_getElem?] at h
    cases he : a.tmps[d]? with
    | none => rw [he] at h; cases h
    | some u => rw [he] at h; simp only [Option.getD_some] at h; rw [h]
theorem wanted_some {g : Nat} {b : Bool} (h : o.guard = some (g, b)) (hg : At ops a g = .bool b) : Region.wanted o (yielded ops a.tmps) = true := by
  simp [Region.wanted, h, yielded_of hg]
theorem step_value {d : Tmp} {w1 : World} (hdst : o.dst = some d) (hw : Region.wanted o (yielded ops a.tmps) = true) (hrun : (execOp a.eval o).run P w = .ok (.value v) w1) (hV : V v w1) (hJ : J w1) (hb : E w w1) : StepOk P ops Q V J E o a w := by
  intro K hK
  rw [if_pos hw]
  unfold Oper.wp
  rw [hrun]
  exact hK v w1 (by rw [if_neg (by rw [hdst]; simp)]; exact hV) hJ hb
theorem step_skip {w1 : World} (hdst : o.dst = none) (hw : Region.wanted o (yielded ops a.tmps) = true) (hrun : (execOp a.eval o).run P w = .ok .skip w1) (hV : V undef w1) (hJ : J w1) (hb : E w w1) : StepOk P ops Q V J E o a w := by
  intro K hK
  rw [if_pos hw]
  unfold Oper.wp
  rw [hrun]
  exact hK undef w1 (by rw [if_pos hdst]; exact hV) hJ hb
theorem step_move {x : Operand} {d : Tmp} (hop : o.op = .move x) (hdst : o.dst = some d) (hw : Region.wanted o (yielded ops a.tmps) = true) (hV : V (a.eval x) w) (hJ : J w) (hE : E w w) : StepOk P ops Q V J E o a w :=
  step_value hdst hw (by unfold execOp; simp [hop]) hV hJ hE
theorem step_assign {x : Operand} {d : Tmp} (hop : o.op = .assign x) (hdst : o.dst = some d) (hw : Region.wanted o (yielded ops a.tmps) = true) (hV : V (a.eval x) w) (hJ : J w) (hE : E w w) : StepOk P ops Q V J E o a w :=
  step_value hdst hw (by unfold execOp; simp [hop]) hV hJ hE
theorem step_pick {c x y : Operand} {b : Bool} {d : Tmp} (hop : o.op = .pick c x y) (hdst : o.dst = some d) (hw : Region.wanted o (yielded ops a.tmps) = true) (hc : a.eval c = .bool b) (hV : V (a.eval (if b then x else y)) w) (hJ : J w) (hE : E w w) : StepOk P ops Q V J E o a w :=
  step_value hdst hw (by unfold execOp; cases b <;> simp [hop, hc, asBool]) hV hJ hE
theorem step_call {f : FuncId} {fn : Func} {as_ : Array Operand} {ts : Array TypeId} {args : Array Value} {d : Tmp} (hdst : o.dst = some d) (hw : Region.wanted o (yielded ops a.tmps) = true) (hf : P.funcs[f]? = some fn) (hname : (fn.name == "runtime.NumGoroutine") = false) (hb : fn.body.isSome = true)
    (hop : o.op = .call { callee := .value (.func f), args := as_, argTypes := ts }) (hargs : as_.map a.eval = args)
    (h : Calls P f args w fun e w' => ∃ v, e = .returned v ∧ V v w' ∧ J w' ∧ E w w') : StepOk P ops Q V J E o a w := by
  intro K hK
  rw [if_pos hw]
  unfold Oper.wp
  have hrun : (execOp a.eval o).run P w = .ok (.enter f args) w := by
    have h1 : fn.name ≠ "runtime.NumGoroutine" := by simpa using hname
    obtain ⟨c, hc⟩ := Option.isSome_iff_exists.1 hb
    have he : (callFunc f args).run P w = .ok (.enter f args) w := by simp [callFunc, hf, h1, hc]
    unfold execOp
    simp [hop, resolve, Deferred.ofValue, invoke, Act.eval, hargs, he]
  rw [hrun]
  simp only [Oper.upon]
  refine h.mono ?_
  rintro e w' ⟨v, rfl, h1, h2, h3⟩
  exact hK v w' (by rw [if_neg (by rw [hdst]; simp)]; exact h1) h2 h3
end
end
end Gy.FlowL
/- The walks over package dense: rows that are turned in place. -/
namespace Go.Proofs.YtcmigmldecacpaaDoor.Dense
open Go Go.RowKit Go.Proofs.YtcmigmldecacpaaDoorW.PrintWords Go.Proofs.YtcmigmldecacpaaDoorW.PrintLast Go.Proofs.YtcmigmldecacpaaDoorW.PrintMore Go.Proofs.YtcmigmldecacpaaDoor.Vec Go.Proofs.YtcmigmldecacpaaDoor.Giv
set_option linter.unusedSimpArgs false
set_option linter.unusedVariables false

/-- all but one block stays -/
def Ext (b : Nat) (w w' : World) : Prop := w.heap.size ≤ w'.heap.size ∧ ∀ k, k < w.heap.size → k ≠ b → w'.heap[k]? = w.heap[k]?
theorem Ext.refl (b : Nat) (w : World) : Ext b w w := ⟨Nat.le_refl _, fun _ _ _ => rfl⟩
theorem Ext.set (b : Nat) (w : World) (i : Nat) (u : Value) : Ext b w (w.setCell ⟨b, i, none⟩ u) := ⟨by rw [Gy.set_size]; exact Nat.le_refl _, fun k _ hk => Below.heap_setCell w _ _ _ hk⟩
theorem Ext.of_below {b : Nat} {w w' : World} (h : Below w.heap.size w w') : Ext b w w' := ⟨h.size, fun k hk _ => h.block k hk⟩
/-- one block has been written, and what is new -/
structure Bx (base b : Nat) (w w' : World) : Prop where
  bel : Below base w w'
  ext : Ext b w w'
theorem Bx.size {base b : Nat} {w w' : World} (h : Bx base b w w') : w.heap.size ≤ w'.heap.size := h.ext.1
theorem Bx.refl (base b : Nat) (w : World) : Bx base b w w := ⟨Below.refl _ _, Ext.refl _ _⟩
theorem Bx.of_below {base b : Nat} {w w' : World} (h : Below w.heap.size w w') (hb : base ≤ w.heap.size) : Bx base b w w' := ⟨h.mono hb, Ext.of_below h⟩
theorem Bx.trans {base b : Nat} {w w' w2 : World} (h : Bx base b w w') (h2 : Bx base b w' w2) : Bx base b w w2 :=
  ⟨h.bel.trans h2.bel, Nat.le_trans h.ext.1 h2.ext.1, fun k hk hne => (h2.ext.2 k (Nat.lt_of_lt_of_le hk h.ext.1) hne).trans (h.ext.2 k hk hne)⟩
theorem Bx.trans_at {base b : Nat} {w w' w2 : World} (h : Bx base b w w') (h2 : Below w.heap.size w' w2) (hs : w'.heap.size ≤ w2.heap.size) (hb : base ≤ w.heap.size) : Bx base b w w2 :=
  ⟨h.bel.trans (h2.mono hb), Nat.le_trans h.ext.1 hs, fun k hk hne => (h2.block k hk).trans (h.ext.2 k hk hne)⟩
theorem Bx.setCell {base b : Nat} {w w' : World} (h : Bx base b w w') (hb : base ≤ b) (i : Nat) (u : Value) : Bx base b w (w'.setCell ⟨b, i, none⟩ u) := h.trans ⟨(Below.refl _ _).setCell hb _, Ext.set b w' i u⟩
theorem reads_block {w : World} {k : IntKind} {ad : Addr} {n : Nat} {xs : List Int} (h : ReadsInt w k (some ad) n xs) (hn : 0 < n) : ad.block < w.heap.size := by
  obtain ⟨ad2, e, hc⟩ := h.2.2 hn
  injection e with e
  subst e
  have h1 := hc 0 hn
  have hb : (ad.add 0).block = ad.block := by unfold Addr.add; split <;> rfl
  rcases Nat.lt_or_ge ad.block w.heap.size with h' | h'
  · exact h'
  · have : (ad.add 0).block ≥ w.heap.size := by rw [hb]; exact h'
    simp [World.cell?, Array.getElem?_eq_none this] at h1
theorem reads_move {w w' : World} {k : IntKind} {A : Option Addr} {n : Nat} {xs : List Int} (h : ReadsInt w k A n xs) (hm : ∀ ad, A = some ad → 0 < n → w'.heap[ad.block]? = w.heap[ad.block]?) : ReadsInt w' k A n xs := by
  refine ⟨h.1, h.2.1, fun hn => ?_⟩
  obtain ⟨ad, e, hc⟩ := h.2.2 hn
  refine ⟨ad, e, fun j hj => ?_⟩
  have h1 := hc j hj
  have hb : (ad.add j).block = ad.block := by unfold Addr.add; split <;> rfl
  have e2 := hm ad e hn
  unfold World.cell? at h1 ⊢
  rw [hb] at h1 ⊢
  rw [e2]; exact h1
/-- a row, its bytes made since, in another block than the rows' own -/
def ElIs (base : Nat) (w : World) (ob : Option Nat) (u : Value) (row : List Int) : Prop :=
  ∃ A c, u = .slice A row.length c ∧ row.length ≤ c ∧ ReadsInt w .u8 A row.length row ∧ w.ownsRow base 5 1 u row.length (nums .u8 row) ∧ u.ownBlock ≠ ob
theorem ElIs.ext {base b : Nat} {w w' : World} {u : Value} {row : List Int} (h : ElIs base w (some b) u row) (hb : Ext b w w') : ElIs base w' (some b) u row := by
  obtain ⟨A, c, e, hc, hR, hn⟩ := h
  refine ⟨A, c, e, hc, reads_move hR (fun ad e2 h0 => ?_), own_move hn.1 (fun k hk => hb.2 k (own_lt hn.1 k hk) (fun e2 => hn.2 (by rw [hk, e2]))), hn.2⟩
  subst e2
  exact hb.2 _ (reads_block hR h0) (fun e2 => hn.2 (by rw [e, ← e2]; rfl))
structure RowsIs (base : Nat) (w : World) (v : Value) (ks : List Value) (rows : List (List Int)) : Prop where
  own : w.ownsRow base 22 1 v ks.length ks
  len : ks.length = rows.length
  el : ∀ (i : Nat) (u : Value) (row : List Int), ks[i]? = some u → rows[i]? = some row → ElIs base w v.ownBlock u row
theorem RowsIs.below {base : Nat} {w w' : World} {v : Value} {ks : List Value} {rows : List (List Int)} (h : RowsIs base w v ks rows) (hb : Below w.heap.size w w') : RowsIs base w' v ks rows := by
  refine ⟨own_move h.own (fun k hk => hb.block k (own_lt h.own k hk)), h.len, fun i u row h1 h2 => ?_⟩
  obtain ⟨A, c, e, hc, hR, hn⟩ := h.el i u row h1 h2
  exact ⟨A, c, e, hc, Gy.reads_below hR hb, own_move hn.1 (fun k hk => hb.block k (own_lt hn.1 k hk)), hn.2⟩
theorem RowsIs.set {base b n cap : Nat} {w : World} {ks : List Value} {rows : List (List Int)} (h : RowsIs base w (.slice (some ⟨b, 0, none⟩) n cap) ks rows) (i : Nat) (u : Value) (row : List Int) (hu : ElIs base w (some b) u row) :
    RowsIs base (w.setCell ⟨b, i, none⟩ u) (.slice (some ⟨b, 0, none⟩) n cap) (ks.set i u) (rows.set i row) := by
  have hn : n = ks.length := by
    obtain ⟨A, c, e⟩ := Vec.own_slice h.own
    injection e
  subst hn
  have hst := (h.own.stored i u).1
  refine ⟨by rw [List.length_set]; exact hst, by rw [List.length_set, List.length_set]; exact h.len, fun j v r h1 h2 => ?_⟩
  by_cases e : i = j
  · subst e
    rw [List.getElem?_set] at h1 h2
    simp only [if_true] at h1 h2
    split at h1
    · split at h2
      · injection h1 with h1
        injection h2 with h2
        subst h1 h2
        exact hu.ext (Ext.set b w i _)
      · cases h2
    · cases h1
  · rw [List.getElem?_set_ne e] at h1 h2
    have h3 : ElIs base w (some b) v r := h.el j v r h1 h2
    exact h3.ext (Ext.set b w i _)
/-- where a row's header lies, and its bytes -/
theorem RowsIs.at {base b n cap : Nat} {w : World} {ks : List Value} {rows : List (List Int)} (h : RowsIs base w (.slice (some ⟨b, 0, none⟩) n cap) ks rows) (i : Nat) (hi : i < rows.length) :
    ∃ A c, ks[i]? = some (.slice A rows[i].length c) ∧ rows[i].length ≤ c ∧ w.cell? ⟨b, i, none⟩ = some (.slice A rows[i].length c) ∧ w.frozen? ⟨b, i, none⟩ = false ∧ ReadsInt w .u8 A rows[i].length rows[i] := by
  have hn : n = ks.length := by
    obtain ⟨A, c, e⟩ := Vec.own_slice h.own
    injection e
  subst hn
  have hik : i < ks.length := by have := h.len; omega
  obtain ⟨A, c, e, hc, hR, _⟩ := h.el i _ _ (List.getElem?_eq_getElem hik) (List.getElem?_eq_getElem hi)
  refine ⟨A, c, by rw [List.getElem?_eq_getElem hik, e], hc, ?_, h.own.frozenAt i, hR⟩
  rw [h.own.cellAt i (by omega), List.getElem?_eq_getElem hik, e]
theorem RowsIs.n_eq {base n cap : Nat} {A : Option Addr} {w : World} {ks : List Value} {rows : List (List Int)} (h : RowsIs base w (.slice A n cap) ks rows) : n = rows.length := by
  obtain ⟨A', c, e⟩ := Vec.own_slice h.own
  injection e with _ e2 _
  rw [e2, h.len]
theorem made_el {base b n c' : Nat} {w w' : World} {A : Option Addr} {xs : List Int} (hm : MadeRow w n xs A c' w') (hn : xs.length = n) (hl : n ≤ 9223372036854775807) (hb : base ≤ w.heap.size) (hlt : b < w.heap.size) : ElIs base w' (some b) (.slice A n c') xs := by
  subst hn
  refine ⟨A, c', rfl, own_le hm.1, Gy.own_reads hm.1 rfl hl, own_lower hm.1 hb, fun e => ?_⟩
  have := own_base hm.1 b e
  omega
/-- rows of one length, of bytes -/
structure Slots (rows : List (List Int)) (n : Nat) : Prop where
  len : ∀ r ∈ rows, r.length = n
  b : ∀ r ∈ rows, By r
theorem Slots.at {rows : List (List Int)} {n : Nat} (h : Slots rows n) {i : Nat} (hi : i < rows.length) : (rows[i]).length = n ∧ By rows[i] := ⟨h.len _ (List.getElem_mem hi), h.b _ (List.getElem_mem hi)⟩
theorem scaleL_by {a : List Int} {c : Nat} (ha : By a) (hc : c < 256) : By (scaleL a c) := by
  intro x hx
  obtain ⟨i, hi, rfl⟩ := List.mem_iff_getElem.1 hx
  have hl := scaleL_length a c
  obtain ⟨m, hm, lm⟩ := ha.at i (by omega)
  have e : (scaleL a c)[i] = mulI c a[i] := by unfold scaleL; exact List.getElem_zipWith
  rw [e, hm]
  unfold mulI
  rw [Int.toNat_natCast]
  have := Gy.gmul_lt lm hc
  omega
theorem getD_at (l : List Int) (j : Nat) (hj : j < l.length) : l.getD j 0 = l[j] := by simp [List.getD_eq_getElem?_getD, hj]
theorem RowsIs.cell {base b n cap : Nat} {w : World} {ks : List Value} {rows : List (List Int)} {u : Value} (h : RowsIs base w (.slice (some ⟨b, 0, none⟩) n cap) ks rows) {i : Nat} (hk : ks[i]? = some u) : w.cell? ⟨b, i, none⟩ = some u := by
  have hn : n = ks.length := by
    obtain ⟨A, c, e⟩ := Vec.own_slice h.own
    injection e
  subst hn
  have hi := (List.getElem?_eq_some_iff.1 hk).1
  rw [h.own.cellAt i (by omega), hk]
theorem RowsIs.free {base b n cap : Nat} {w : World} {ks : List Value} {rows : List (List Int)} (h : RowsIs base w (.slice (some ⟨b, 0, none⟩) n cap) ks rows) (i : Nat) : w.frozen? ⟨b, i, none⟩ = false := by
  have hn : n = ks.length := by
    obtain ⟨A, c, e⟩ := Vec.own_slice h.own
    injection e
  subst hn
  exact h.own.frozenAt i
theorem RowsIs.reads {base m c : Nat} {w : World} {v : Value} {ks : List Value} {rows : List (List Int)} {row : List Int} {A : Option Addr} (h : RowsIs base w v ks rows) {i : Nat} (hi : i < rows.length) (hk : ks[i]? = some (.slice A m c)) (hr : rows[i] = row) : ReadsInt w .u8 A m row := by
  obtain ⟨A', c', e, _, hR, _⟩ := h.el i _ _ hk (by rw [List.getElem?_eq_getElem hi, hr])
  injection e with e1 e2 e3
  subst e1 e2
  exact hR
theorem reads_cell {w : World} {ad : Addr} {m : Nat} {row : List Int} (h : ReadsInt w .u8 (some ad) m row) {j : Nat} {x : Int} (hj : j < m) (hx : row.getD j 0 = x) : w.cell? (ad.add j) = some (.int .u8 x) := by
  obtain ⟨ad2, e, hc⟩ := h.2.2 (by omega)
  injection e with e
  subst e
  rw [hc j hj, hx]
theorem RowsIs.base {base n cap b : Nat} {w : World} {ks : List Value} {rows : List (List Int)} (h : RowsIs base w (.slice (some ⟨b, 0, none⟩) n cap) ks rows) : base ≤ b := own_base h.own b rfl
/-! ### sub -/
def subAt (rf : List Int) (f at_ i : Nat) (r : List Int) : List Int := if i ≠ f ∧ r.getD at_ 0 ≠ 0 then plusL r rf (r.getD at_ 0).toNat else r
def subTo (rows : List (List Int)) (rf : List Int) (f at_ k : Nat) : List (List Int) := rows.mapIdx fun i r => if i < k then subAt rf f at_ i r else r
def subL (rows : List (List Int)) (f at_ : Nat) : List (List Int) := subTo rows (rows.getD f []) f at_ rows.length
theorem subTo_length (rows : List (List Int)) (rf : List Int) (f at_ k : Nat) : (subTo rows rf f at_ k).length = rows.length := by simp [subTo]
theorem subTo_at {rows : List (List Int)} (rf : List Int) (f at_ k i : Nat) (hi : i < rows.length) : (subTo rows rf f at_ k)[i]'(by rw [subTo_length]; exact hi) = if i < k then subAt rf f at_ i rows[i] else rows[i] := by simp [subTo]
theorem subTo_zero (rows : List (List Int)) (rf : List Int) (f at_ : Nat) : subTo rows rf f at_ 0 = rows := by
  apply List.ext_getElem (subTo_length _ _ _ _ _)
  intro i h1 h2
  rw [subTo_at rf f at_ 0 i h2, if_neg (by omega)]
theorem subTo_next {rows : List (List Int)} (rf : List Int) (f at_ k : Nat) (hk : k < rows.length) : subTo rows rf f at_ (k + 1) = (subTo rows rf f at_ k).set k (subAt rf f at_ k rows[k]) := by
  apply List.ext_getElem (by rw [List.length_set, subTo_length, subTo_length])
  intro i h1 h2
  have hi : i < rows.length := by rw [subTo_length] at h1; exact h1
  rw [List.getElem_set, subTo_at rf f at_ (k + 1) i hi]
  by_cases e : k = i
  · subst e; rw [if_pos (by omega), if_pos rfl]
  · rw [if_neg e, subTo_at rf f at_ k i hi]
    by_cases h : i < k
    · rw [if_pos h, if_pos (by omega)]
    · rw [if_neg h, if_neg (by omega)]
theorem subTo_same {rows : List (List Int)} {rf : List Int} {f at_ k : Nat} (hk : k < rows.length) (h : subAt rf f at_ k rows[k] = rows[k]) : subTo rows rf f at_ (k + 1) = subTo rows rf f at_ k := by
  rw [subTo_next rf f at_ k hk, h]
  apply List.ext_getElem (by rw [List.length_set])
  intro i h1 h2
  rw [List.getElem_set]
  by_cases e : k = i
  · subst e; rw [if_pos rfl, subTo_at rf f at_ k k hk, if_neg (by omega)]
  · rw [if_neg e]
theorem subTo_f {rows : List (List Int)} {rf : List Int} {f at_ k : Nat} (hf : f < rows.length) : (subTo rows rf f at_ k)[f]'(by rw [subTo_length]; exact hf) = rows[f] := by
  rw [subTo_at rf f at_ k f hf]
  unfold subAt
  split
  · rw [if_neg (by simp)]
  · rfl
theorem subTo_k {rows : List (List Int)} {rf : List Int} {f at_ k : Nat} (hk : k < rows.length) : (subTo rows rf f at_ k)[k]'(by rw [subTo_length]; exact hk) = rows[k] := by
  rw [subTo_at rf f at_ k k hk, if_neg (by omega)]
theorem sub_call {base b n cap m ci cf c : Nat} {W0 w : World} {ks : List Value} {R : List (List Int)} {Ai Af : Option Addr} {ri rf : List Int} {J' : World → Prop} (hR : RowsIs base w (.slice (some ⟨b, 0, none⟩) n cap) ks R)
    (hax : ReadsInt w .u8 Ai m ri ∧ ReadsInt w .u8 Af m rf ∧ By ri ∧ By rf ∧ c < 256 ∧ m ≤ 100000) (hB : Bx base b W0 w) (hbase : base ≤ w.heap.size) (hJ : ∀ w', Bx base b W0 w' → RowsIs base w' (.slice (some ⟨b, 0, none⟩) n cap) ks R → J' w') :
    Calls Tryd.prog 8 #[.slice Ai m ci, .slice Af m cf, .int .u8 (c : Int)] w fun e w' => ∃ v, e = .returned v ∧ (∃ A c', v = .tuple #[.slice A m c', .int .i64 0] ∧ ElIs base w' (some b) (.slice A m c') (plusL ri rf c)) ∧ J' w' ∧ Ext b w w' := by
  obtain ⟨h0, h1, h2, h3, h4, h5⟩ := hax
  refine (axpy_calls Ai ci Af cf m c ri rf w h0 h1 h2 h3 h4 h5).mono ?_
  rintro e w' ⟨A', c', rfl, hm⟩
  have hl : (plusL ri rf c).length = m := (plusL_length (h1.1.trans h0.1.symm) c).trans h0.1
  have hlt : b < w.heap.size := own_lt hR.own b rfl
  exact ⟨_, rfl, ⟨A', c', rfl, made_el hm hl (by omega) hbase hlt⟩, hJ w' (hB.trans (Bx.of_below hm.2 hbase)) (hR.below hm.2), Ext.of_below hm.2⟩
set_option maxHeartbeats 4000000 in
set_option maxRecDepth 100000 in
theorem sub_calls (base b n cap f at_ m : Nat) (ks : List Value) (rows : List (List Int)) (W : World) (h : RowsIs base W (.slice (some ⟨b, 0, none⟩) n cap) ks rows) (hbase : base ≤ W.heap.size) (hS : Slots rows m) (hm : m ≤ 100000) (hf : f < rows.length) (hrl : rows.length ≤ 100000) (hat : at_ < m) :
    Calls Tryd.prog 40 #[.slice (some ⟨b, 0, none⟩) n cap, .int .i64 (f : Int), .int .i64 (at_ : Int)] W fun e w' => e = .returned (.tuple #[]) ∧ (∃ ks', RowsIs base w' (.slice (some ⟨b, 0, none⟩) n cap) ks' (subL rows f at_)) ∧ Bx base b W w' := by
  obtain rfl : n = rows.length := h.n_eq
  have H := Lib.hid h
  have HP := Lib.hid (And.intro hbase (And.intro hS (And.intro hm (And.intro hf (And.intro hrl hat)))))
  clear h hbase hS hm hf hrl hat
  obtain ⟨rf0, hrf0⟩ : ∃ rf0, rf0 = rows.getD f [] := ⟨_, rfl⟩
  have HRF := Lib.hid hrf0
  clear hrf0
  go_enter Tryd.func40, Tryd.ntmps40
  go_wp2_with fail
  go_loopw [10] (fun v10 wr => ∃ i : Nat, i ≤ rows.length ∧ v10 = .int .i64 (i : Int) ∧ Gy.Hd ((∃ ks', RowsIs base wr (.slice (some ⟨b, 0, none⟩) rows.length cap) ks' (subTo rows rf0 f at_ i)) ∧ Bx base b W wr)) (fun v10 _ => rows.length - (intOf v10).toNat)
  case atStart => exact ⟨0, Nat.zero_le _, rfl, ⟨⟨_, by rw [subTo_zero]; exact H.out⟩, Bx.refl _ _ _⟩⟩
  case round =>
    obtain ⟨i, hi, rfl, hx⟩ := hrel
    obtain ⟨⟨ks', hR⟩, hB⟩ := hx.out
    by_cases hlt : i < rows.length
    · have t3 := j_lt hlt
      obtain ⟨Ai, ci, ki, li, k0, fz, rdi⟩ := hR.at i (by rw [subTo_length]; exact hlt)
      obtain ⟨Af, cf, kf, lf, k1, _, rdf⟩ := hR.at f (by rw [subTo_length]; exact HP.out.2.2.2.1)
      have ei := subTo_k (rf := rf0) (f := f) (at_ := at_) hlt
      have ef := subTo_f (rows := rows) (rf := rf0) (at_ := at_) (k := i) HP.out.2.2.2.1
      obtain ⟨mi, byi⟩ := HP.out.2.1.at hlt
      obtain ⟨mf, byf⟩ := HP.out.2.1.at HP.out.2.2.2.1
      rw [ei, mi] at ki li k0 rdi
      rw [ef, mf] at kf lf k1 rdf
      have erf : rows[f]'HP.out.2.2.2.1 = rf0 := by rw [HRF.out, List.getD_eq_getElem?_getD, List.getElem?_eq_getElem HP.out.2.2.2.1]; rfl
      rw [erf] at rdf byf
      have hnx := subTo_next rf0 f at_ i hlt
      have hsame : subAt rf0 f at_ i rows[i] = rows[i] → subTo rows rf0 f at_ (i + 1) = subTo rows rf0 f at_ i := subTo_same hlt
      generalize rows[i] = ri at ei mi byi rdi hnx hsame
      obtain ⟨adi, rfl, hci⟩ := rdi.2.2 (by have := HP.out.2.2.2.2.2; omega)
      obtain ⟨c, hc, lc⟩ := byi.at at_ (by rw [mi]; exact HP.out.2.2.2.2.2)
      have kc := hci at_ HP.out.2.2.2.2.2
      have egd : ri.getD at_ 0 = (c : Int) := by rw [getD_at ri at_ (by rw [mi]; exact HP.out.2.2.2.2.2), hc]
      rw [egd] at kc
      have HC := Lib.hid (And.intro egd (And.intro mi (And.intro byi byf)))
      have HX := Lib.hid (And.intro hR hB)
      have HK := Lib.hid (And.intro ki (And.intro kf (And.intro li lf)))
      have HRD := Lib.hid (And.intro rdi rdf)
      have HJ := Lib.hid hlt
      have HWJ := Lib.hid (up_wrap hlt (by have := HP.out.2.2.2.2.1; omega))
      have hwj := HWJ.out
      have hend := end_row hlt
      have HNX := Lib.hid (And.intro hnx hsame)
      have HLC := Lib.hid lc
      have tf : (f : Int) < (rows.length : Int) := by have := HP.out.2.2.2.1; omega
      have tat : (at_ : Int) < (m : Int) := by have := HP.out.2.2.2.2.2; omega
      have hifl : i < (subTo rows rf0 f at_ i).length := by rw [subTo_length]; exact hlt
      have hffl : f < (subTo rows rf0 f at_ i).length := by rw [subTo_length]; exact HP.out.2.2.2.1
      have HCF := Lib.hid (fun (w : World) (h : RowsIs base w (.slice (some ⟨b, 0, none⟩) rows.length cap) ks' (subTo rows rf0 f at_ i)) => h.cell kf)
      have HST := Lib.hid (fun (w : World) (h : RowsIs base w (.slice (some ⟨b, 0, none⟩) rows.length cap) ks' (subTo rows rf0 f at_ i)) => h.cell ki)
      have HAX := Lib.hid (fun (w : World) (h : RowsIs base w (.slice (some ⟨b, 0, none⟩) rows.length cap) ks' (subTo rows rf0 f at_ i)) => (And.intro (h.reads hifl ki ei) (And.intro (h.reads hffl kf (ef.trans erf)) (And.intro byi (And.intro byf (And.intro lc HP.out.2.2.1))))))
      have HCI := Lib.hid (fun (w : World) (h : RowsIs base w (.slice (some ⟨b, 0, none⟩) rows.length cap) ks' (subTo rows rf0 f at_ i)) => reads_cell (h.reads hifl ki ei) HP.out.2.2.2.2.2 egd)
      have HBB := Lib.hid hR.base
      clear hifl hffl
      clear hR hB hx ki kf li lf rdi rdf ei mi mf byi byf hci hc egd hnx hsame lc ef erf
      by_cases hif : i = f
      · subst hif
        have t4 : ((i : Int) == (i : Int)) = true := by simp
        have t5 : ((i : Int) != (i : Int)) = false := by simp
        have hsm : subTo rows rf0 i at_ (i + 1) = subTo rows rf0 i at_ i := HNX.out.2 (by unfold subAt; rw [if_neg (by simp)])
        have HSM := Lib.hid hsm
        clear hsm
        go_wp2_with fail
        (try rw [HWJ.out])
        exact ⟨⟨i + 1, HJ.out, by norm_cast, ⟨⟨ks', by rw [HSM.out]; exact HX.out.1⟩, HX.out.2⟩⟩, hend⟩
      · have t4 : ((i : Int) == (f : Int)) = false := by simp; omega
        have t5 : ((i : Int) != (f : Int)) = true := by simp; omega
        by_cases hc0 : c = 0
        · subst hc0
          have hsm : subTo rows rf0 f at_ (i + 1) = subTo rows rf0 f at_ i := HNX.out.2 (by unfold subAt; rw [HC.out.1, if_neg (by simp)])
          have HSM := Lib.hid hsm
          clear hsm
          go_wp2_with fail
          (try rw [HWJ.out])
          exact ⟨⟨i + 1, HJ.out, by norm_cast, ⟨⟨ks', by rw [HSM.out]; exact HX.out.1⟩, HX.out.2⟩⟩, hend⟩
        · have t6 : ((c : Int) == 0) = false := by simp; omega
          have t7 : ((c : Int) != 0) = true := by simp; omega
          have hst : subTo rows rf0 f at_ (i + 1) = (subTo rows rf0 f at_ i).set i (plusL ri rf0 c) := by
            rw [HNX.out.1]; unfold subAt; rw [HC.out.1, if_pos ⟨hif, by omega⟩, Int.toNat_natCast]
          have HST2 := Lib.hid hst
          clear hst
          go_wp2_with fail
          have HJ0 : Hid (Bx base b W wr.drew ∧ (false = true → ∃ ks2, RowsIs base wr.drew (.slice (some ⟨b, 0, none⟩) rows.length cap) ks2 ((subTo rows rf0 f at_ i).set i (plusL ri rf0 c))) ∧ (false = false → RowsIs base wr.drew (.slice (some ⟨b, 0, none⟩) rows.length cap) ks' (subTo rows rf0 f at_ i))) := ⟨HX.out.2.trans (Bx.of_below (Gy.drew_below wr) (Nat.le_trans HP.out.1 HX.out.2.size)), fun h => (by cases h), fun _ => HX.out.1.below (Gy.drew_below wr)⟩
          refine Gy.FlowL.flow (by kernel_rfl) (fun i_ => List.getD [(fun v _ => v = .slice (some ⟨b, 0, none⟩) rows.length cap), (fun v _ => v = .int .i64 (i : Int)), (fun v _ => v = .slice (some adi) m ci), (fun v _ => v = .slice (some ⟨b, 0, none⟩) rows.length cap), (fun v _ => v = .int .i64 (f : Int)), (fun v _ => v = .pointer (some ⟨b, f, none⟩)), (fun v _ => v = .slice Af m cf), (fun v _ => v = .slice (some adi) m ci), (fun v _ => v = .int .i64 (at_ : Int)), (fun v _ => v = .pointer (some (adi.add at_))), (fun v _ => v = .int .u8 (c : Int)), (fun v w => ∃ A c', v = .tuple #[.slice A m c', .int .i64 0] ∧ ElIs base w (some b) (.slice A m c') (plusL ri rf0 c)), (fun v w => ∃ A c', v = .tuple #[.slice A m c', .int .i64 0] ∧ ElIs base w (some b) (.slice A m c') (plusL ri rf0 c)), (fun v w => ∃ A c', v = .slice A m c' ∧ ElIs base w (some b) (.slice A m c') (plusL ri rf0 c)), (fun v _ => v = .int .i64 0), (fun v _ => v = .pointer (some ⟨b, i, none⟩)), (fun _ _ => True)] i_ (fun _ _ => True)) (fun L w => Bx base b W w ∧ (L 16 = true → ∃ ks2, RowsIs base w (.slice (some ⟨b, 0, none⟩) rows.length cap) ks2 ((subTo rows rf0 f at_ i).set i (plusL ri rf0 c))) ∧ (L 16 = false → RowsIs base w (.slice (some ⟨b, 0, none⟩) rows.length cap) ks' (subTo rows rf0 f at_ i))) (fun w w' => Ext b w w') (by kernel_rfl) HJ0.out (Gy.FlowL.mono_list [(fun v _ => v = .slice (some ⟨b, 0, none⟩) rows.length cap), (fun v _ => v = .int .i64 (i : Int)), (fun v _ => v = .slice (some adi) m ci), (fun v _ => v = .slice (some ⟨b, 0, none⟩) rows.length cap), (fun v _ => v = .int .i64 (f : Int)), (fun v _ => v = .pointer (some ⟨b, f, none⟩)), (fun v _ => v = .slice Af m cf), (fun v _ => v = .slice (some adi) m ci), (fun v _ => v = .int .i64 (at_ : Int)), (fun v _ => v = .pointer (some (adi.add at_))), (fun v _ => v = .int .u8 (c : Int)), (fun v w => ∃ A c', v = .tuple #[.slice A m c', .int .i64 0] ∧ ElIs base w (some b) (.slice A m c') (plusL ri rf0 c)), (fun v w => ∃ A c', v = .tuple #[.slice A m c', .int .i64 0] ∧ ElIs base w (some b) (.slice A m c') (plusL ri rf0 c)), (fun v w => ∃ A c', v = .slice A m c' ∧ ElIs base w (some b) (.slice A m c') (plusL ri rf0 c)), (fun v _ => v = .int .i64 0), (fun v _ => v = .pointer (some ⟨b, i, none⟩)), (fun _ _ => True)] ?_) (Gy.FlowL.of_allFrom ⟨?_, ?_, ?_, ?_, ?_, ?_, ?_, ?_, ?_, ?_, ?_, ?_, ?_, ?_, ?_, ?_, ?_, trivial⟩) ?_
          · exact ⟨fun v w w' h hb => h, fun v w w' h hb => h, fun v w w' h hb => h, fun v w w' h hb => h, fun v w w' h hb => h, fun v w w' h hb => h, fun v w w' h hb => h, fun v w w' h hb => h, fun v w w' h hb => h, fun v w w' h hb => h, fun v w w' h hb => h, fun v w w' ⟨A, c, e, h⟩ hb => ⟨A, c, e, h.ext hb⟩, fun v w w' ⟨A, c, e, h⟩ hb => ⟨A, c, e, h.ext hb⟩, fun v w w' ⟨A, c, e, h⟩ hb => ⟨A, c, e, h.ext hb⟩, fun v w w' h hb => h, fun v w w' h hb => h, fun v w w' h hb => h, trivial⟩
          · intro L a w hD
            have e0 : a.eval (.tmp 0) = .slice (some ⟨b, 0, none⟩) rows.length cap := hD.same.at_other 0 (by kernel_rfl)
            exact Gy.FlowL.step_move rfl rfl (Gy.FlowL.wanted_none rfl) e0 hD.J (Ext.refl b w)
          · intro L a w hD
            have e6 : a.eval (.tmp 6) = .int .i64 (i : Int) := hD.same.at_other 6 (by kernel_rfl)
            exact Gy.FlowL.step_move rfl rfl (Gy.FlowL.wanted_none rfl) e6 hD.J (Ext.refl b w)
          · intro L a w hD
            have e7 : a.eval (.tmp 7) = .slice (some adi) m ci := hD.same.at_other 7 (by kernel_rfl)
            exact Gy.FlowL.step_move rfl rfl (Gy.FlowL.wanted_none rfl) e7 hD.J (Ext.refl b w)
          · intro L a w hD
            have e0 : a.eval (.tmp 0) = .slice (some ⟨b, 0, none⟩) rows.length cap := hD.same.at_other 0 (by kernel_rfl)
            exact Gy.FlowL.step_move rfl rfl (Gy.FlowL.wanted_none rfl) e0 hD.J (Ext.refl b w)
          · intro L a w hD
            have e1 : a.eval (.tmp 1) = .int .i64 (f : Int) := hD.same.at_other 1 (by kernel_rfl)
            exact Gy.FlowL.step_move rfl rfl (Gy.FlowL.wanted_none rfl) e1 hD.J (Ext.refl b w)
          · intro L a w hD
            have e29 : a.eval (.tmp 29) = .slice (some ⟨b, 0, none⟩) rows.length cap := hD.at 3 (by kernel_rfl)
            have e30 : a.eval (.tmp 30) = .int .i64 (f : Int) := hD.at 4 (by kernel_rfl)
            have f29 := e29; simp only [Act.eval, Array.getD_eq_getD_getElem?] at f29
            have f30 := e30; simp only [Act.eval, Array.getD_eq_getD_getElem?] at f30
            refine Gy.FlowL.step_value rfl (Gy.FlowL.wanted_none rfl) (v := .pointer (some ⟨b, f, none⟩)) (w1 := w) ?_ rfl hD.J (Ext.refl b w)
            simp only [execOp, e29, e30]; go_simp
          · intro L a w hD
            have e31 : a.eval (.tmp 31) = .pointer (some ⟨b, f, none⟩) := hD.at 5 (by kernel_rfl)
            have hR := hD.J.2.2 (hD.later 16 (by kernel_rfl))
            have k0 := HCF.out w hR
            have f31 := e31; simp only [Act.eval, Array.getD_eq_getD_getElem?] at f31
            refine Gy.FlowL.step_value rfl (Gy.FlowL.wanted_none rfl) (v := .slice Af m cf) (w1 := w) ?_ rfl hD.J (Ext.refl b w)
            simp only [execOp, e31]; go_simp
          · intro L a w hD
            have e7 : a.eval (.tmp 7) = .slice (some adi) m ci := hD.same.at_other 7 (by kernel_rfl)
            exact Gy.FlowL.step_move rfl rfl (Gy.FlowL.wanted_none rfl) e7 hD.J (Ext.refl b w)
          · intro L a w hD
            have e2 : a.eval (.tmp 2) = .int .i64 (at_ : Int) := hD.same.at_other 2 (by kernel_rfl)
            exact Gy.FlowL.step_move rfl rfl (Gy.FlowL.wanted_none rfl) e2 hD.J (Ext.refl b w)
          · intro L a w hD
            have e33 : a.eval (.tmp 33) = .slice (some adi) m ci := hD.at 7 (by kernel_rfl)
            have e34 : a.eval (.tmp 34) = .int .i64 (at_ : Int) := hD.at 8 (by kernel_rfl)
            have f33 := e33; simp only [Act.eval, Array.getD_eq_getD_getElem?] at f33
            have f34 := e34; simp only [Act.eval, Array.getD_eq_getD_getElem?] at f34
            refine Gy.FlowL.step_value rfl (Gy.FlowL.wanted_none rfl) (v := .pointer (some (adi.add at_))) (w1 := w) ?_ rfl hD.J (Ext.refl b w)
            simp only [execOp, e33, e34]; go_simp
          · intro L a w hD
            have e35 : a.eval (.tmp 35) = .pointer (some (adi.add at_)) := hD.at 9 (by kernel_rfl)
            have hR := hD.J.2.2 (hD.later 16 (by kernel_rfl))
            have k0 := HCI.out w hR
            have f35 := e35; simp only [Act.eval, Array.getD_eq_getD_getElem?] at f35
            refine Gy.FlowL.step_value rfl (Gy.FlowL.wanted_none rfl) (v := .int .u8 (c : Int)) (w1 := w) ?_ rfl hD.J (Ext.refl b w)
            simp only [execOp, e35]; go_simp
          · intro L a w hD
            have e28 : a.eval (.tmp 28) = .slice (some adi) m ci := hD.at 2 (by kernel_rfl)
            have e32 : a.eval (.tmp 32) = .slice Af m cf := hD.at 6 (by kernel_rfl)
            have e36 : a.eval (.tmp 36) = .int .u8 (c : Int) := hD.at 10 (by kernel_rfl)
            have hR := hD.J.2.2 (hD.later 16 (by kernel_rfl))
            have h16 := hD.later 16 (by kernel_rfl)
            refine Gy.FlowL.step_call (args := #[.slice (some adi) m ci, .slice Af m cf, .int .u8 (c : Int)]) rfl (Gy.FlowL.wanted_none rfl) Tryd.func8 (by kernel_rfl) (by kernel_rfl) rfl (by simp only [List.map_toArray, List.map_cons, List.map_nil, e28, e32, e36]) ?_
            exact sub_call hR (HAX.out w hR) hD.J.1 (Nat.le_trans HP.out.1 hD.J.1.size) (fun w' h1 h2 => ⟨h1, fun h => absurd (h.symm.trans h16) (by decide), fun _ => h2⟩)
          · intro L a w hD
            have q37 : (fun v w => ∃ A c', v = .tuple #[.slice A m c', .int .i64 0] ∧ ElIs base w (some b) (.slice A m c') (plusL ri rf0 c)) (a.eval (.tmp 37)) w := hD.at 11 (by kernel_rfl)
            obtain ⟨A37, c37, e37, r37⟩ := q37
            have q : (∃ A c', a.eval (.tmp 37) = .tuple #[.slice A m c', .int .i64 0] ∧ ElIs base w (some b) (.slice A m c') (plusL ri rf0 c)) := ⟨A37, c37, e37, r37⟩
            exact Gy.FlowL.step_move rfl rfl (Gy.FlowL.wanted_none rfl) q hD.J (Ext.refl b w)
          · intro L a w hD
            have q25 : (fun v w => ∃ A c', v = .tuple #[.slice A m c', .int .i64 0] ∧ ElIs base w (some b) (.slice A m c') (plusL ri rf0 c)) (a.eval (.tmp 25)) w := hD.at 12 (by kernel_rfl)
            obtain ⟨A25, c25, e25, r25⟩ := q25
            have f25 := e25; simp only [Act.eval, Array.getD_eq_getD_getElem?] at f25
            refine Gy.FlowL.step_value rfl (Gy.FlowL.wanted_none rfl) (v := .slice A25 m c25) (w1 := w) ?_ ⟨A25, c25, rfl, r25⟩ hD.J (Ext.refl b w)
            simp only [execOp, e25]; go_simp
          · intro L a w hD
            have q25 : (fun v w => ∃ A c', v = .tuple #[.slice A m c', .int .i64 0] ∧ ElIs base w (some b) (.slice A m c') (plusL ri rf0 c)) (a.eval (.tmp 25)) w := hD.at 12 (by kernel_rfl)
            obtain ⟨A25, c25, e25, r25⟩ := q25
            have f25 := e25; simp only [Act.eval, Array.getD_eq_getD_getElem?] at f25
            refine Gy.FlowL.step_value rfl (Gy.FlowL.wanted_none rfl) (v := .int .i64 0) (w1 := w) ?_ rfl hD.J (Ext.refl b w)
            simp only [execOp, e25]; go_simp
          · intro L a w hD
            have e26 : a.eval (.tmp 26) = .slice (some ⟨b, 0, none⟩) rows.length cap := hD.at 0 (by kernel_rfl)
            have e27 : a.eval (.tmp 27) = .int .i64 (i : Int) := hD.at 1 (by kernel_rfl)
            have f26 := e26; simp only [Act.eval, Array.getD_eq_getD_getElem?] at f26
            have f27 := e27; simp only [Act.eval, Array.getD_eq_getD_getElem?] at f27
            refine Gy.FlowL.step_value rfl (Gy.FlowL.wanted_none rfl) (v := .pointer (some ⟨b, i, none⟩)) (w1 := w) ?_ rfl hD.J (Ext.refl b w)
            simp only [execOp, e26, e27]; go_simp
          · intro L a w hD
            have e40 : a.eval (.tmp 40) = .pointer (some ⟨b, i, none⟩) := hD.at 15 (by kernel_rfl)
            have q38 : (fun v w => ∃ A c', v = .slice A m c' ∧ ElIs base w (some b) (.slice A m c') (plusL ri rf0 c)) (a.eval (.tmp 38)) w := hD.at 13 (by kernel_rfl)
            obtain ⟨A38, c38, e38, r38⟩ := q38
            have hR := hD.J.2.2 hD.not
            have f40 := e40; simp only [Act.eval, Array.getD_eq_getD_getElem?] at f40
            have f38 := e38; simp only [Act.eval, Array.getD_eq_getD_getElem?] at f38
            have k0 := HST.out w hR
            have f0 := hR.free i
            refine Gy.FlowL.step_skip (w1 := w.setCell ⟨b, i, none⟩ (.slice A38 m c38)) rfl (Gy.FlowL.wanted_none rfl) ?_ trivial ⟨hD.J.1.setCell HBB.out _ _, fun _ => ⟨_, hR.set i _ _ r38⟩, fun h => absurd h (by simp [Gy.FlowL.add])⟩ (Ext.set b w _ _)
            simp only [execOp, e40, e38]; go_simp
          · intro L a w hs hJ hL hv
            obtain ⟨ks2, hR2⟩ := hJ.2.1 (hL 16 (by decide))
            have hp := Gy.FlowL.same_puts (by kernel_rfl) hs
            have HR2 := Lib.hid (And.intro hR2 hJ.1)
            generalize Gy.FlowL.At _ a = vs at hp
            clear hv hs hJ hR2
            subst hp
            simp only [Gy.FlowL.puts, Act.put, List.setIfInBounds_toArray, List.set_cons_zero, List.set_cons_succ]
            go_wp2_with fail
            (try rw [HWJ.out])
            exact ⟨⟨i + 1, HJ.out, by norm_cast, ⟨⟨ks2, by rw [HST2.out]; exact HR2.out.1⟩, HR2.out.2⟩⟩, hend⟩
    · obtain rfl : i = rows.length := Nat.le_antisymm hi (Nat.le_of_not_lt hlt)
      have t3 : decide ((rows.length : Int) < (rows.length : Int)) = false := by simp
      have HX := Lib.hid (And.intro hR hB)
      clear hR hB hx
      go_wp2
      go_end0
      refine ⟨rfl, ⟨ks', ?_⟩, HX.out.2⟩
      unfold subL
      rw [← HRF.out]
      exact HX.out.1
end Go.Proofs.YtcmigmldecacpaaDoor.Dense
/- Machine-made by a program of this claim: functions of the Go program as Lean functions, and that its calls do what these say. Lean checks it. -/
namespace Go.Proofs.YtcmigmldecacpaaDoor.QInv
open Go.RowKit Go.Proofs.YtcmigmldecacpaaDoorW.PrintWords Go.Proofs.YtcmigmldecacpaaDoorW.PrintLast Go.Proofs.YtcmigmldecacpaaDoorW.PrintMore
attribute [local go_sem] max2_int min2_int max_two min_two max_three min_three max_four min_four   -- for this text's walks alone
set_option linter.unusedVariables false
set_option linter.unusedSimpArgs false



def errW : Option Int → Value
  | none => .nilIface
  | some c => .iface 0 (.int .i64 c)
theorem errW_none : errW none = .nilIface := rfl
theorem errW_some (c : Int) : errW (some c) = .iface 0 (.int .i64 c) := rfl

-- the values' own types

end Go.Proofs.YtcmigmldecacpaaDoor.QInv
/- Machine-made by a program of this claim: functions of the Go program as Lean functions, and that its calls do what these say. Lean checks it. -/
namespace Go.Proofs.YtcmigmldecacpaaDoor.QInv
open Go.RowKit Go.Proofs.YtcmigmldecacpaaDoorW.PrintWords Go.Proofs.YtcmigmldecacpaaDoorW.PrintLast Go.Proofs.YtcmigmldecacpaaDoorW.PrintMore
attribute [local go_sem] max2_int min2_int max_two min_two max_three min_three max_four min_four   -- for this text's walks alone
set_option linter.unusedVariables false
set_option linter.unusedSimpArgs false

/-! ### field_Mul: function 23 -/
def field_Mul.l0 : Nat → Int → Int → Int → Option (Int)
  | 0, _, _, _ => none
  | k + 1, x5, x6, x7 => if x7 > 0 then (if (Go.bits .and .i64 x7 1) = 1 then (if (wrap64 (x6 * 2)) > 255 then (field_Mul.l0 k (Go.bits .xor .i64 x5 x6) (Go.bits .xor .i64 (wrap64 (x6 * 2)) 285) (x7 / 2)) else (field_Mul.l0 k (Go.bits .xor .i64 x5 x6) (wrap64 (x6 * 2)) (x7 / 2))) else (if (wrap64 (x6 * 2)) > 255 then (field_Mul.l0 k x5 (Go.bits .xor .i64 (wrap64 (x6 * 2)) 285) (x7 / 2)) else (field_Mul.l0 k x5 (wrap64 (x6 * 2)) (x7 / 2)))) else (some ((x5) % 256))
def field_Mul.f (k : Nat) (a0 : Int) (a1 : Int) : Option (Int) := field_Mul.l0 k 0 (wrap64 (a0)) (wrap64 (a1))
theorem field_Mul.mono_l : ∀ k, (∀ y0 y1 y2, LeO (field_Mul.l0 k y0 y1 y2) (field_Mul.l0 (k + 1) y0 y1 y2))
  | 0 => fun _ _ _ r h => by simp [field_Mul.l0] at h
  | k + 1 => by
    have ih0 := field_Mul.mono_l k
    · intro y0 y1 y2
      unfold field_Mul.l0
      repeat' first
      | (with_reducible exact ih0 _ _ _)
      | (with_reducible exact LeO.refl _)
      | (with_reducible exact LeO.none _)
      | (with_reducible refine LeO.ite ?_ ?_)
      | (with_reducible refine LeO.bind ?_ (fun _ => ?_))
      | exact ih0 _ _ _
      | exact LeO.none _
      | refine LeO.ite ?_ ?_
      | refine LeO.bind ?_ (fun _ => ?_)
theorem field_Mul.mono : ∀ a0 a1 k, LeO (field_Mul.f k a0 a1) (field_Mul.f (k + 1) a0 a1) := by
  intro a0 a1 k
  have ih0 := field_Mul.mono_l k
  unfold field_Mul.f
  repeat' first
      | (with_reducible exact ih0 _ _ _)
      | (with_reducible exact LeO.refl _)
      | (with_reducible exact LeO.none _)
      | (with_reducible refine LeO.ite ?_ ?_)
      | (with_reducible refine LeO.bind ?_ (fun _ => ?_))
      | exact ih0 _ _ _
      | exact LeO.none _
      | refine LeO.ite ?_ ?_
      | refine LeO.bind ?_ (fun _ => ?_)
set_option maxHeartbeats 8000000 in
set_option maxRecDepth 100000 in
theorem field_Mul.calls (k : Nat) (a0 : Int) (a1 : Int) (r : Int) (w : World) (h : field_Mul.f k a0 a1 = some r) :
    Calls Tryd.prog 23 #[.int .u8 a0, .int .u8 a1] w fun e w' => e = .returned (.int .u8 r) ∧ Drawn0 w w' := by
  have H : (field_Mul.l0 k 0 (wrap64 (a0)) (wrap64 (a1))) = some r := h
  clear h
  have H' := Aside0.mk H
  clear H
  go_enter Tryd.func23, Tryd.ntmps23
  go_wp2
  go_loopg [5, 6, 7] k (fun kq v5 v6 v7 w' => ∃ (x5_1 : Int) (x6_1 : Int) (x7_1 : Int), v5 = .int .i64 x5_1 ∧ v6 = .int .i64 x6_1 ∧ v7 = .int .i64 x7_1 ∧ Aside0 (field_Mul.l0 kq x5_1 x6_1 x7_1 = some r) ∧ Aside0 (kq ≤ k) ∧ Drawn0 w w')
  case atStart => exact ⟨(0), (wrap64 (a0)), (wrap64 (a1)), (by first | rfl | (simp; done) | (simp [*]; done)), (by first | rfl | (simp; done) | (simp [*]; done)), (by first | rfl | (simp; done) | (simp [*]; done)), H', ⟨Nat.le_refl _⟩, by repeat (first | exact Drawn0.refl _ | apply Drawn0.step)⟩
  case round =>
    clear H'
    try clear c2
    try clear p2
    obtain ⟨x5_1, x6_1, x7_1, rfl, rfl, rfl, HA, HK1, ⟨m1, rfl⟩⟩ := hrel
    cases gk with
    | zero => exact absurd HA.out (by simp [field_Mul.l0])
    | succ k1 =>
      have H := HA.out
      clear HA
      simp only [field_Mul.l0] at H
      by_cases c3 : x7_1 > 0
      · rw [if_pos c3] at H
        have c3b0 : decide (0 < x7_1) = true := decide_eq_true c3
        clear c3
        by_cases c4 : (Go.bits .and .i64 x7_1 1) = 1
        · rw [if_pos c4] at H
          have c4b0 : ((Go.bits .and .i64 x7_1 1) == 1) = true := beq_iff_eq.mpr c4
          have c4b1 : ((Go.bits .and .i64 x7_1 1) != 1) = false := bne_eq_false_iff_eq.mpr c4
          clear c4
          by_cases c5 : (wrap64 (x6_1 * 2)) > 255
          · rw [if_pos c5] at H
            have c5b0 : decide (255 < (wrap64 (x6_1 * 2))) = true := decide_eq_true c5
            clear c5
            have H' := Aside0.mk H
            clear H
            go_wp2
            go_roundg k1
            case measure => have := HK1.out; omega
            case rel => exact ⟨(Go.bits .xor .i64 x5_1 x6_1), (Go.bits .xor .i64 (wrap64 (x6_1 * 2)) 285), (x7_1 / 2), (by first | rfl | (simp; done) | (simp [*]; done)), (by first | rfl | (simp; done) | (simp [*]; done)), (by first | rfl | (simp; done) | (simp [*]; done)), H', ⟨by have := HK1.out; omega⟩, by repeat (first | exact Drawn0.refl _ | apply Drawn0.step)⟩
          · rw [if_neg c5] at H
            have c5b0 : decide (255 < (wrap64 (x6_1 * 2))) = false := decide_eq_false c5
            clear c5
            have H' := Aside0.mk H
            clear H
            go_wp2
            go_roundg k1
            case measure => have := HK1.out; omega
            case rel => exact ⟨(Go.bits .xor .i64 x5_1 x6_1), (wrap64 (x6_1 * 2)), (x7_1 / 2), (by first | rfl | (simp; done) | (simp [*]; done)), (by first | rfl | (simp; done) | (simp [*]; done)), (by first | rfl | (simp; done) | (simp [*]; done)), H', ⟨by have := HK1.out; omega⟩, by repeat (first | exact Drawn0.refl _ | apply Drawn0.step)⟩
        · rw [if_neg c4] at H
          have c4b0 : ((Go.bits .and .i64 x7_1 1) == 1) = false := beq_eq_false_iff_ne.mpr c4
          have c4b1 : ((Go.bits .and .i64 x7_1 1) != 1) = true := bne_iff_ne.mpr c4
          by_cases c6 : (wrap64 (x6_1 * 2)) > 255
          · rw [if_pos c6] at H
            have c6b0 : decide (255 < (wrap64 (x6_1 * 2))) = true := decide_eq_true c6
            clear c6
            have H' := Aside0.mk H
            clear H
            go_wp2
            go_roundg k1
            case measure => have := HK1.out; omega
            case rel => exact ⟨(x5_1), (Go.bits .xor .i64 (wrap64 (x6_1 * 2)) 285), (x7_1 / 2), (by first | rfl | (simp; done) | (simp [*]; done)), (by first | rfl | (simp; done) | (simp [*]; done)), (by first | rfl | (simp; done) | (simp [*]; done)), H', ⟨by have := HK1.out; omega⟩, by repeat (first | exact Drawn0.refl _ | apply Drawn0.step)⟩
          · rw [if_neg c6] at H
            have c6b0 : decide (255 < (wrap64 (x6_1 * 2))) = false := decide_eq_false c6
            clear c6
            have H' := Aside0.mk H
            clear H
            go_wp2
            go_roundg k1
            case measure => have := HK1.out; omega
            case rel => exact ⟨(x5_1), (wrap64 (x6_1 * 2)), (x7_1 / 2), (by first | rfl | (simp; done) | (simp [*]; done)), (by first | rfl | (simp; done) | (simp [*]; done)), (by first | rfl | (simp; done) | (simp [*]; done)), H', ⟨by have := HK1.out; omega⟩, by repeat (first | exact Drawn0.refl _ | apply Drawn0.step)⟩
      · rw [if_neg c3] at H
        have c3b0 : decide (0 < x7_1) = false := decide_eq_false c3
        clear c3
        obtain rfl := Option.some.inj H
        go_wp2
        go_ret
        exact ⟨by first | rfl | (simp; done) | (simp [*]; done), by repeat (first | exact Drawn0.refl _ | apply Drawn0.step)⟩

/-! ### field_power: function 46 -/
def field_power.l0 : Nat → Int → Int → Int → Option (Int)
  | 0, _, _, _ => none
  | k + 1, x0, x1, x5 => if x1 > 0 then (if (Go.bits .and .i64 x1 1) = 1 then ((field_Mul.f k x5 x0).bind fun t101 => ((field_Mul.f k x0 x0).bind fun t102 => (field_power.l0 k t102 (x1 / 2) t101))) else ((field_Mul.f k x0 x0).bind fun t103 => (field_power.l0 k t103 (x1 / 2) x5))) else (some x5)
def field_power.f (k : Nat) (a0 : Int) (a1 : Int) : Option (Int) := field_power.l0 k a0 a1 1
theorem field_power.mono_l : ∀ k, (∀ y0 y1 y2, LeO (field_power.l0 k y0 y1 y2) (field_power.l0 (k + 1) y0 y1 y2))
  | 0 => fun _ _ _ r h => by simp [field_power.l0] at h
  | k + 1 => by
    have ih0 := field_power.mono_l k
    · intro y0 y1 y2
      unfold field_power.l0
      repeat' first
      | (with_reducible exact ih0 _ _ _)
      | (with_reducible exact field_Mul.mono _ _ _)
      | (with_reducible exact LeO.refl _)
      | (with_reducible exact LeO.none _)
      | (with_reducible refine LeO.ite ?_ ?_)
      | (with_reducible refine LeO.bind ?_ (fun _ => ?_))
      | exact ih0 _ _ _
      | exact field_Mul.mono _ _ _
      | exact LeO.none _
      | refine LeO.ite ?_ ?_
      | refine LeO.bind ?_ (fun _ => ?_)
theorem field_power.mono : ∀ a0 a1 k, LeO (field_power.f k a0 a1) (field_power.f (k + 1) a0 a1) := by
  intro a0 a1 k
  have ih0 := field_power.mono_l k
  unfold field_power.f
  repeat' first
      | (with_reducible exact ih0 _ _ _)
      | (with_reducible exact field_Mul.mono _ _ _)
      | (with_reducible exact LeO.refl _)
      | (with_reducible exact LeO.none _)
      | (with_reducible refine LeO.ite ?_ ?_)
      | (with_reducible refine LeO.bind ?_ (fun _ => ?_))
      | exact ih0 _ _ _
      | exact field_Mul.mono _ _ _
      | exact LeO.none _
      | refine LeO.ite ?_ ?_
      | refine LeO.bind ?_ (fun _ => ?_)
set_option maxHeartbeats 8000000 in
set_option maxRecDepth 100000 in
theorem field_power.calls (k : Nat) (a0 : Int) (a1 : Int) (r : Int) (w : World) (h : field_power.f k a0 a1 = some r) :
    Calls Tryd.prog 46 #[.int .u8 a0, .int .i64 a1] w fun e w' => e = .returned (.int .u8 r) ∧ Drawn0 w w' := by
  have H : (field_power.l0 k a0 a1 1) = some r := h
  clear h
  have H' := Aside0.mk H
  clear H
  go_enter Tryd.func46, Tryd.ntmps46
  go_wp2
  go_loopg [0, 1, 5] k (fun kq v0 v1 v5 w' => ∃ (x0_1 : Int) (x1_1 : Int) (x5_1 : Int), v0 = .int .u8 x0_1 ∧ v1 = .int .i64 x1_1 ∧ v5 = .int .u8 x5_1 ∧ Aside0 (field_power.l0 kq x0_1 x1_1 x5_1 = some r) ∧ Aside0 (kq ≤ k) ∧ Drawn0 w w')
  case atStart => exact ⟨(a0), (a1), (1), (by first | rfl | (simp; done) | (simp [*]; done)), (by first | rfl | (simp; done) | (simp [*]; done)), (by first | rfl | (simp; done) | (simp [*]; done)), H', ⟨Nat.le_refl _⟩, by repeat (first | exact Drawn0.refl _ | apply Drawn0.step)⟩
  case round =>
    clear H'
    try clear p2
    obtain ⟨x0_1, x1_1, x5_1, rfl, rfl, rfl, HA, HK1, ⟨m1, rfl⟩⟩ := hrel
    cases gk with
    | zero => exact absurd HA.out (by simp [field_power.l0])
    | succ k1 =>
      have H := HA.out
      clear HA
      simp only [field_power.l0] at H
      by_cases c3 : x1_1 > 0
      · rw [if_pos c3] at H
        have c3b0 : decide (0 < x1_1) = true := decide_eq_true c3
        clear c3
        by_cases c4 : (Go.bits .and .i64 x1_1 1) = 1
        · rw [if_pos c4] at H
          have c4b0 : ((Go.bits .and .i64 x1_1 1) == 1) = true := beq_iff_eq.mpr c4
          have c4b1 : ((Go.bits .and .i64 x1_1 1) != 1) = false := bne_eq_false_iff_eq.mpr c4
          clear c4
          replace H := Option.bind_eq_some_iff.mp H
          obtain ⟨t101, A50, H⟩ := H
          replace H : ((field_Mul.f k1 x0_1 x0_1).bind fun t102 => (field_power.l0 k1 t102 (x1_1 / 2) t101)) = some r := H
          have A5 := Aside0.mk A50
          clear A50
          replace H := Option.bind_eq_some_iff.mp H
          obtain ⟨t102, A60, H⟩ := H
          replace H : (field_power.l0 k1 t102 (x1_1 / 2) t101) = some r := H
          have A6 := Aside0.mk A60
          clear A60
          have H' := Aside0.mk H
          clear H
          go_wp2_with (first | ((with_reducible refine gate_callee (f := 23) rfl ?_); refine goesL_ (some 15) rfl rfl Tryd.func23 (by kernel_rfl) rfl #[.int .u8 x5_1, .int .u8 x0_1] rfl (by (try simp only [List.map_toArray, List.map_cons, List.map_nil]); first | done | rfl | (simp only [List.length_drop, List.length_take]; rfl)) ?_; (with_reducible refine (field_Mul.calls k1 x5_1 x0_1 t101 _ A5.out).mono ?_); rintro e w' ⟨rfl, ⟨nd, rfl⟩⟩; refine ⟨_, rfl, ?_⟩) | ((with_reducible refine gate_callee (f := 23) rfl ?_); refine goesL_ (some 18) rfl rfl Tryd.func23 (by kernel_rfl) rfl #[.int .u8 x0_1, .int .u8 x0_1] rfl (by (try simp only [List.map_toArray, List.map_cons, List.map_nil]); first | done | rfl | (simp only [List.length_drop, List.length_take]; rfl)) ?_; (with_reducible refine (field_Mul.calls k1 x0_1 x0_1 t102 _ A6.out).mono ?_); rintro e w' ⟨rfl, ⟨nd, rfl⟩⟩; refine ⟨_, rfl, ?_⟩))
          go_roundg k1
          case measure => have := HK1.out; omega
          case rel => exact ⟨(t102), (x1_1 / 2), (t101), (by first | rfl | (simp; done) | (simp [*]; done)), (by first | rfl | (simp; done) | (simp [*]; done)), (by first | rfl | (simp; done) | (simp [*]; done)), H', ⟨by have := HK1.out; omega⟩, by repeat (first | exact Drawn0.refl _ | apply Drawn0.step)⟩
        · rw [if_neg c4] at H
          have c4b0 : ((Go.bits .and .i64 x1_1 1) == 1) = false := beq_eq_false_iff_ne.mpr c4
          have c4b1 : ((Go.bits .and .i64 x1_1 1) != 1) = true := bne_iff_ne.mpr c4
          replace H := Option.bind_eq_some_iff.mp H
          obtain ⟨t103, A70, H⟩ := H
          replace H : (field_power.l0 k1 t103 (x1_1 / 2) x5_1) = some r := H
          have A7 := Aside0.mk A70
          clear A70
          have H' := Aside0.mk H
          clear H
          go_wp2_with (first | ((with_reducible refine gate_callee (f := 23) rfl ?_); refine goesL_ (some 18) rfl rfl Tryd.func23 (by kernel_rfl) rfl #[.int .u8 x0_1, .int .u8 x0_1] rfl (by (try simp only [List.map_toArray, List.map_cons, List.map_nil]); first | done | rfl | (simp only [List.length_drop, List.length_take]; rfl)) ?_; (with_reducible refine (field_Mul.calls k1 x0_1 x0_1 t103 _ A7.out).mono ?_); rintro e w' ⟨rfl, ⟨nd, rfl⟩⟩; refine ⟨_, rfl, ?_⟩))
          go_roundg k1
          case measure => have := HK1.out; omega
          case rel => exact ⟨(t103), (x1_1 / 2), (x5_1), (by first | rfl | (simp; done) | (simp [*]; done)), (by first | rfl | (simp; done) | (simp [*]; done)), (by first | rfl | (simp; done) | (simp [*]; done)), H', ⟨by have := HK1.out; omega⟩, by repeat (first | exact Drawn0.refl _ | apply Drawn0.step)⟩
      · rw [if_neg c3] at H
        have c3b0 : decide (0 < x1_1) = false := decide_eq_false c3
        clear c3
        obtain rfl := Option.some.inj H
        go_wp2
        go_ret
        exact ⟨by first | rfl | (simp; done) | (simp [*]; done), by repeat (first | exact Drawn0.refl _ | apply Drawn0.step)⟩

/-! ### field_Inv: function 39 -/
def field_Inv.f (k : Nat) (a0 : Int) : Option (Int) := (field_power.f k a0 254).bind fun t104 => (some t104)
theorem field_Inv.mono : ∀ a0 k, LeO (field_Inv.f k a0) (field_Inv.f (k + 1) a0) := by
  intro a0 k
  unfold field_Inv.f
  repeat' first
      | (with_reducible exact field_power.mono _ _ _)
      | (with_reducible exact LeO.refl _)
      | (with_reducible exact LeO.none _)
      | (with_reducible refine LeO.ite ?_ ?_)
      | (with_reducible refine LeO.bind ?_ (fun _ => ?_))
      | exact field_power.mono _ _ _
      | exact LeO.none _
      | refine LeO.ite ?_ ?_
      | refine LeO.bind ?_ (fun _ => ?_)
set_option maxHeartbeats 8000000 in
set_option maxRecDepth 100000 in
theorem field_Inv.calls (k : Nat) (a0 : Int) (r : Int) (w : World) (h : field_Inv.f k a0 = some r) :
    Calls Tryd.prog 39 #[.int .u8 a0] w fun e w' => e = .returned (.int .u8 r) ∧ Drawn0 w w' := by
  have H : ((field_power.f k a0 254).bind fun t104 => (some t104)) = some r := h
  clear h
  replace H := Option.bind_eq_some_iff.mp H
  obtain ⟨t104, A20, H⟩ := H
  replace H : (some t104) = some r := H
  have A2 := Aside0.mk A20
  clear A20
  obtain rfl := Option.some.inj H
  go_enter Tryd.func39, Tryd.ntmps39
  go_wp2_with (first | ((with_reducible refine gate_callee (f := 46) rfl ?_); refine goesL_ (some 4) rfl rfl Tryd.func46 (by kernel_rfl) rfl #[.int .u8 a0, .int .i64 254] rfl (by (try simp only [List.map_toArray, List.map_cons, List.map_nil]); first | done | rfl | (simp only [List.length_drop, List.length_take]; rfl)) ?_; (with_reducible refine (field_power.calls k a0 254 t104 _ A2.out).mono ?_); rintro e w' ⟨rfl, ⟨nd, rfl⟩⟩; refine ⟨_, rfl, ?_⟩))
  go_ret
  exact ⟨by first | rfl | (simp; done) | (simp [*]; done), by repeat (first | exact Drawn0.refl _ | apply Drawn0.step)⟩

end Go.Proofs.YtcmigmldecacpaaDoor.QInv
/- Inverses: the printed function is the plain one. -/
namespace Go.Proofs.YtcmigmldecacpaaDoor.Inv
open Go Go.RowKit Go.Proofs.YtcmigmldecacpaaDoor.QInv Go.Proofs.YtcmigmldecacpaaDoorW.PrintWords Go.Proofs.YtcmigmldecacpaaDoorW.PrintLast

theorem gmulAux_zero : ∀ (f s x : Nat), Gy.gmulAux f s x 0 = s := by
  intro f
  induction f with
  | zero => intro s x; rfl
  | succ f ih => intro s x; unfold Gy.gmulAux; rw [if_neg (by decide)]; exact ih _ _
theorem w2 {x : Nat} (h : x < 256) : wrap64 ((x : Int) * 2) = ((x * 2 : Nat) : Int) := by unfold wrap64; omega
theorem half (y : Nat) : (y : Int) / 2 = ((y / 2 : Nat) : Int) := by omega
theorem fm_l0 : ∀ (f s x y k : Nat), s < 256 → x < 256 → y < 2 ^ f → y < 256 → f < k → field_Mul.l0 k s x y = some ((Gy.gmulAux f s x y : Nat) : Int) := by
  intro f
  induction f with
  | zero =>
    intro s x y k hs hx hy _ hk
    obtain ⟨k, rfl⟩ : ∃ m, k = m + 1 := ⟨k - 1, by omega⟩
    obtain rfl : y = 0 := by simp at hy; omega
    simp only [field_Mul.l0]
    rw [if_neg (by omega)]
    show some ((s : Int) % 256) = some (s : Int)
    congr 1; omega
  | succ f ih =>
    intro s x y k hs hx hy hy2 hk
    obtain ⟨k, rfl⟩ : ∃ m, k = m + 1 := ⟨k - 1, by omega⟩
    by_cases h0 : y = 0
    · subst h0
      rw [gmulAux_zero]
      simp only [field_Mul.l0]
      rw [if_neg (by omega)]
      congr 1; omega
    · simp only [field_Mul.l0]
      rw [if_pos (by omega), Gy.i64_and1 y (by omega), w2 hx, Gy.i64_xor s x (by omega) (by omega), half]
      have e285 : Go.bits .xor .i64 ((x * 2 : Nat) : Int) 285 = ((((x * 2) ^^^ 285) : Nat) : Int) := Gy.i64_xor (x * 2) 285 (by omega) (by omega)
      rw [e285]
      have hxt := Gy.xt_lt hx
      have hsx := Gy.xor_lt8 hs hx
      have hy' : y / 2 < 2 ^ f := by rw [Nat.pow_succ] at hy; omega
      have hm : Gy.gmulAux (f + 1) s x y = Gy.gmulAux f (if y % 2 = 1 then s ^^^ x else s) (Gy.xt x) (y / 2) := rfl
      by_cases h1 : y % 2 = 1
      · rw [if_pos (by omega)]
        rw [if_pos h1] at hm
        by_cases h2 : x * 2 > 255
        · have ex : Gy.xt x = (x * 2) ^^^ 285 := by unfold Gy.xt; rw [if_pos h2]
          rw [if_pos (by omega), hm, ← ex]
          exact ih _ _ _ _ hsx hxt hy' (by omega) (by omega)
        · have ex : Gy.xt x = x * 2 := by unfold Gy.xt; rw [if_neg h2]
          rw [if_neg (by omega), hm, ← ex]
          exact ih _ _ _ _ hsx hxt hy' (by omega) (by omega)
      · rw [if_neg (by omega)]
        rw [if_neg h1] at hm
        by_cases h2 : x * 2 > 255
        · have ex : Gy.xt x = (x * 2) ^^^ 285 := by unfold Gy.xt; rw [if_pos h2]
          rw [if_pos (by omega), hm, ← ex]
          exact ih _ _ _ _ hs hxt hy' (by omega) (by omega)
        · have ex : Gy.xt x = x * 2 := by unfold Gy.xt; rw [if_neg h2]
          rw [if_neg (by omega), hm, ← ex]
          exact ih _ _ _ _ hs hxt hy' (by omega) (by omega)
theorem fmul {k : Nat} (hk : 9 ≤ k) {a b : Nat} (ha : a < 256) (hb : b < 256) : field_Mul.f k a b = some ((Gy.gmul a b : Nat) : Int) := by
  unfold field_Mul.f
  rw [Gy.wrap64_id (by omega) (by omega), Gy.wrap64_id (by omega) (by omega)]
  exact fm_l0 8 0 a b k (by omega) ha hb hb (by omega)
theorem fp_l0 : ∀ (f out a n k : Nat), out < 256 → a < 256 → n < 2 ^ f → n < 4294967296 → f + 9 < k → field_power.l0 k a n out = some ((Gy.powAux f out a n : Nat) : Int) := by
  intro f
  induction f with
  | zero =>
    intro out a n k ho ha hn _ hk
    obtain ⟨k, rfl⟩ : ∃ m, k = m + 1 := ⟨k - 1, by omega⟩
    obtain rfl : n = 0 := by simp at hn; omega
    simp only [field_power.l0]
    rw [if_neg (by omega)]
    rfl
  | succ f ih =>
    intro out a n k ho ha hn hn2 hk
    obtain ⟨k, rfl⟩ : ∃ m, k = m + 1 := ⟨k - 1, by omega⟩
    simp only [field_power.l0]
    by_cases h0 : n = 0
    · subst h0
      rw [if_neg (by omega)]
      unfold Gy.powAux
      rw [if_pos rfl]
    · have hn' : n / 2 < 2 ^ f := by rw [Nat.pow_succ] at hn; omega
      rw [if_pos (by omega), Gy.i64_and1 n (by omega), fmul (by omega) ho ha, fmul (by omega) ha ha, half]
      simp only [Option.bind_some]
      have hm : Gy.powAux (f + 1) out a n = Gy.powAux f (if n % 2 = 1 then Gy.gmul out a else out) (Gy.gmul a a) (n / 2) := by
        conv => lhs; unfold Gy.powAux
        rw [if_neg h0]
      by_cases h1 : n % 2 = 1
      · rw [if_pos (by omega), hm, if_pos h1]
        exact ih _ _ _ _ (Gy.gmul_lt ho ha) (Gy.gmul_lt ha ha) hn' (by omega) (by omega)
      · rw [if_neg (by omega), hm, if_neg h1]
        exact ih _ _ _ _ ho (Gy.gmul_lt ha ha) hn' (by omega) (by omega)
theorem fpower {k : Nat} (hk : 18 ≤ k) {a n : Nat} (ha : a < 256) (hn : n < 256) : field_power.f k a n = some ((Gy.gpow a n : Nat) : Int) := by
  unfold field_power.f
  have h := fp_l0 8 1 a n k (by omega) ha hn (by omega) (by omega)
  rw [Gy.powAux_eq 8 1 a n (by omega) ha hn, Gy.gmul_one_left (Gy.gpow_lt ha n)] at h
  exact h
theorem inv_calls (a : Nat) (w : World) (ha : a < 256) : Calls Tryd.prog 39 #[.int .u8 a] w fun e w' => e = .returned (.int .u8 (Gy.ginv a : Nat)) ∧ Below w.heap.size w w' := by
  have h : field_Inv.f 300 a = some ((Gy.ginv a : Nat) : Int) := by
    unfold field_Inv.f
    have e254 : field_power.f 300 a 254 = some ((Gy.ginv a : Nat) : Int) := fpower (by omega) ha (n := 254) (by omega)
    rw [e254]
    rfl
  exact (field_Inv.calls 300 a _ w h).mono fun _ _ h => ⟨h.1, h.2.below⟩
end Go.Proofs.YtcmigmldecacpaaDoor.Inv
