/- Machine-made by a program of this claim: functions of the Go program as Lean functions, and that its calls do what these say. Lean checks it. -/
import Derived.Test.YtcmigmldecacpaaZQEncodeSumsx0
import Derived.Test.YtcmigmldecacpaaZQEncodeSumsx1
import Derived.Test.YtcmigmldecacpaaZQEncodeSumsx2
import Derived.Test.YtcmigmldecacpaaZGiv
import Derived.Test.YtcmigmldecacpaaZGivFill
import Derived.Test.YtcmigmldecacpaaZGivPicks
import Derived.Test.YtcmigmldecacpaaZGivSClone
namespace Go.Proofs.Ytcmigmldecacpaa.QEncodeSums
open Go.RowKit Go.Proofs.YtcmigmldecacpaaW.PrintWords Go.Proofs.YtcmigmldecacpaaW.PrintLast Go.Proofs.YtcmigmldecacpaaW.PrintMore Go.Proofs.Ytcmigmldecacpaa.Giv
attribute [local go_sem] max2_int min2_int max_two min_two max_three min_three max_four min_four   -- for this text's walks alone
set_option linter.unusedVariables false
set_option linter.unusedSimpArgs false

mutual
def precode_Rows.l0 : Nat → Int → Int → List (List Int) → Int → Int → Option ((List (List Int)))
 | 0, _, _, _, _, _ => none
 | k + 1, x0, x3, x4, x16, x17 => if x17 < x16 then (if 0 ≤ x0 then (if (x0 : Int).toNat ≤ 281474976710656 then (if 0 ≤ x17 then (if x17 < (x4.length : Int) then (precode_Rows.l0 k x0 x3 (x4.set (x17 : Int).toNat (List.replicate (x0 : Int).toNat 0)) x16 (wrap64 (x17 + 1))) else (none)) else (none)) else (none)) else (none)) else (precode_Rows.l1 k x3 x4 x0 0)
def precode_Rows.l1 : Nat → Int → List (List Int) → Int → Int → Option ((List (List Int)))
 | 0, _, _, _, _ => none
 | k + 1, x3, x4, x26, x27 => if x27 < x26 then (if x3 = 0 then (none) else (if 0 ≤ (Int.tmod x27 x3) then (if (Int.tmod x27 x3) < (x4.length : Int) then (if 0 ≤ x27 then (if x27 < ((rd_L1 x4 (Int.tmod x27 x3)).length : Int) then ((some (x4.set ((Int.tmod x27 x3) : Int).toNat ((rd_L1 x4 (Int.tmod x27 x3)).set (x27 : Int).toNat 1) : List (List Int))).bind fun y137 => (if 0 ≤ (Int.tmod (wrap64 ((wrap64 (3 * x27)) + 1)) x3) then (if (Int.tmod (wrap64 ((wrap64 (3 * x27)) + 1)) x3) < (x4.length : Int) then (if x27 < ((rd_L1 y137 (Int.tmod (wrap64 ((wrap64 (3 * x27)) + 1)) x3)).length : Int) then (precode_Rows.l2 k x3 (y137.set ((Int.tmod (wrap64 ((wrap64 (3 * x27)) + 1)) x3) : Int).toNat ((rd_L1 y137 (Int.tmod (wrap64 ((wrap64 (3 * x27)) + 1)) x3)).set (x27 : Int).toNat 1)) x27 x26 x27 0) else (none)) else (none)) else (none))) else (none)) else (none)) else (none)) else (none))) else (some x4)
def precode_Rows.l2 : Nat → Int → List (List Int) → Int → Int → Int → Int → Option ((List (List Int)))
 | 0, _, _, _, _, _, _ => none
 | k + 1, x3, x4, x6, x26, x27, x48 => if x48 < 2 then (if 0 ≤ (wrap64 (x3 + x48)) then (if (wrap64 (x3 + x48)) < (x4.length : Int) then ((field_Pow.f k 2 (wrap64 ((wrap64 (x6 + 1)) * (wrap64 (x48 + 1))))).bind fun t143 => (if 0 ≤ x6 then (if x6 < ((rd_L1 x4 (wrap64 (x3 + x48))).length : Int) then (precode_Rows.l2 k x3 (x4.set ((wrap64 (x3 + x48)) : Int).toNat ((rd_L1 x4 (wrap64 (x3 + x48))).set (x6 : Int).toNat t143)) x6 x26 x27 (wrap64 (x48 + 1))) else (none)) else (none))) else (none)) else (none)) else (precode_Rows.l1 k x3 x4 x26 (wrap64 (x27 + 1)))
end
def precode_Rows.f (k : Nat) (a0 : Int) : Option ((List (List Int))) := (precode_wrong.f a0).bind fun t125 => (if t125 = true then (some ([] : List (List Int))) else ((precode_sparse.f a0).bind fun t126 => (if 0 ≤ (wrap64 (t126 + 2)) then (if (wrap64 (t126 + 2) : Int).toNat ≤ 11728124029610 then ((some (List.replicate (wrap64 (t126 + 2) : Int).toNat [] : List (List Int))).bind fun y127 => (precode_Rows.l0 k a0 t126 y127 (y127.length : Int) 0)) else (none)) else (none))))
theorem precode_Rows.mono_l : ∀ k, (∀ y0 y1 y2 y3 y4, LeO (precode_Rows.l0 k y0 y1 y2 y3 y4) (precode_Rows.l0 (k + 1) y0 y1 y2 y3 y4)) ∧ (∀ y0 y1 y2 y3, LeO (precode_Rows.l1 k y0 y1 y2 y3) (precode_Rows.l1 (k + 1) y0 y1 y2 y3)) ∧ (∀ y0 y1 y2 y3 y4 y5, LeO (precode_Rows.l2 k y0 y1 y2 y3 y4 y5) (precode_Rows.l2 (k + 1) y0 y1 y2 y3 y4 y5))
 | 0 => ⟨fun _ _ _ _ _ r h => by simp [precode_Rows.l0] at h, fun _ _ _ _ r h => by simp [precode_Rows.l1] at h, fun _ _ _ _ _ _ r h => by simp [precode_Rows.l2] at h⟩
 | k + 1 => by
  obtain ⟨ih0, ih1, ih2⟩ := precode_Rows.mono_l k
  refine ⟨?_, ?_, ?_⟩
  ·intro y0 y1 y2 y3 y4
   unfold precode_Rows.l0
   repeat' first
   | (with_reducible exact ih0 _ _ _ _ _)
   | (with_reducible exact ih1 _ _ _ _)
   | (with_reducible exact ih2 _ _ _ _ _ _)
   | (with_reducible exact field_Pow.mono _ _ _)
   | (with_reducible exact LeO.refl _)
   | (with_reducible exact LeO.none _)
   | (with_reducible refine LeO.ite ?_ ?_)
   | (with_reducible refine LeO.bind ?_ (fun _ => ?_))
   | exact ih0 _ _ _ _ _
   | exact ih1 _ _ _ _
   | exact ih2 _ _ _ _ _ _
   | exact field_Pow.mono _ _ _
   | exact LeO.none _
   | refine LeO.ite ?_ ?_
   | refine LeO.bind ?_ (fun _ => ?_)
  ·intro y0 y1 y2 y3
   unfold precode_Rows.l1
   repeat' first
   | (with_reducible exact ih0 _ _ _ _ _)
   | (with_reducible exact ih1 _ _ _ _)
   | (with_reducible exact ih2 _ _ _ _ _ _)
   | (with_reducible exact field_Pow.mono _ _ _)
   | (with_reducible exact LeO.refl _)
   | (with_reducible exact LeO.none _)
   | (with_reducible refine LeO.ite ?_ ?_)
   | (with_reducible refine LeO.bind ?_ (fun _ => ?_))
   | exact ih0 _ _ _ _ _
   | exact ih1 _ _ _ _
   | exact ih2 _ _ _ _ _ _
   | exact field_Pow.mono _ _ _
   | exact LeO.none _
   | refine LeO.ite ?_ ?_
   | refine LeO.bind ?_ (fun _ => ?_)
  ·intro y0 y1 y2 y3 y4 y5
   unfold precode_Rows.l2
   repeat' first
   | (with_reducible exact ih0 _ _ _ _ _)
   | (with_reducible exact ih1 _ _ _ _)
   | (with_reducible exact ih2 _ _ _ _ _ _)
   | (with_reducible exact field_Pow.mono _ _ _)
   | (with_reducible exact LeO.refl _)
   | (with_reducible exact LeO.none _)
   | (with_reducible refine LeO.ite ?_ ?_)
   | (with_reducible refine LeO.bind ?_ (fun _ => ?_))
   | exact ih0 _ _ _ _ _
   | exact ih1 _ _ _ _
   | exact ih2 _ _ _ _ _ _
   | exact field_Pow.mono _ _ _
   | exact LeO.none _
   | refine LeO.ite ?_ ?_
   | refine LeO.bind ?_ (fun _ => ?_)
theorem precode_Rows.mono : ∀ a0 k, LeO (precode_Rows.f k a0) (precode_Rows.f (k + 1) a0) := by
 intro a0 k
 obtain ⟨ih0, ih1, ih2⟩ := precode_Rows.mono_l k
 unfold precode_Rows.f
 repeat' first
   | (with_reducible exact ih0 _ _ _ _ _)
   | (with_reducible exact ih1 _ _ _ _)
   | (with_reducible exact ih2 _ _ _ _ _ _)
   | (with_reducible exact field_Pow.mono _ _ _)
   | (with_reducible exact LeO.refl _)
   | (with_reducible exact LeO.none _)
   | (with_reducible refine LeO.ite ?_ ?_)
   | (with_reducible refine LeO.bind ?_ (fun _ => ?_))
   | exact ih0 _ _ _ _ _
   | exact ih1 _ _ _ _
   | exact ih2 _ _ _ _ _ _
   | exact field_Pow.mono _ _ _
   | exact LeO.none _
   | refine LeO.ite ?_ ?_
   | refine LeO.bind ?_ (fun _ => ?_)
def precode_Rows.T18 : Bool × List (List Nat × List Nat) := (true, [([], []), ([], []), ([], []), ([1, 2], [1, 2]), ([0, 3], [0, 3]), ([4], [4]), ([], []), ([], []), ([7], [7]), ([], []), ([9], [9]), ([8, 10], [8, 10]), ([11], [11]), ([5, 6, 0, 1, 2, 3, 4, 5, 6, 7, 8, 9, 10, 11, 12], [5, 6]), ([13, 12, 12, 0, 1, 2, 3, 4, 5, 6, 7, 8, 9, 10, 11, 12], [12, 13])])
def precode_Rows.B18 : List Nat := [0, 0, 0, 6, 15, 31, 0, 0, 128, 0, 512, 1920, 3968, 8191, 16383]
theorem precode_Rows.tab18 : rtab .any (opsOf Try.f63 18) = precode_Rows.T18 := by kernel_rfl
theorem precode_Rows.bits18 : waitsOk precode_Rows.T18.2 precode_Rows.B18 = true := by kernel_rfl
set_option maxHeartbeats 8000000 in
set_option maxRecDepth 100000 in
theorem precode_Rows.calls (k : Nat) (a0 : Int) (r : List (List Int)) (w : World) (h : precode_Rows.f k a0 = some r) :
  Calls Try.prog 63 #[.int .i64 a0] w fun e w' => ∃ v0_ : Value, e = .returned (v0_) ∧ Kd.S (Kd.slice 5 (Kd.int .u8)) 31 w' w.heap.size (fun _ => True) v0_ r ∧ Below w.heap.size w w' := by
 have HB := Aside0.mk (Below.refl w.heap.size w)
 have H : ((precode_wrong.f a0).bind fun t125 => (if t125 = true then (some ([] : List (List Int))) else ((precode_sparse.f a0).bind fun t126 => (if 0 ≤ (wrap64 (t126 + 2)) then (if (wrap64 (t126 + 2) : Int).toNat ≤ 11728124029610 then ((some (List.replicate (wrap64 (t126 + 2) : Int).toNat [] : List (List Int))).bind fun y127 => (precode_Rows.l0 k a0 t126 y127 (y127.length : Int) 0)) else (none)) else (none))))) = some r := h
 clear h
 replace H := Option.bind_eq_some_iff.mp H
 obtain ⟨t125, A20, H⟩ := H
 replace H : (if t125 = true then (some ([] : List (List Int))) else ((precode_sparse.f a0).bind fun t126 => (if 0 ≤ (wrap64 (t126 + 2)) then (if (wrap64 (t126 + 2) : Int).toNat ≤ 11728124029610 then ((some (List.replicate (wrap64 (t126 + 2) : Int).toNat [] : List (List Int))).bind fun y127 => (precode_Rows.l0 k a0 t126 y127 (y127.length : Int) 0)) else (none)) else (none)))) = some r := H
 have A2 := Aside0.mk A20
 clear A20
 by_cases c3 : t125 = true
 ·subst c3
  have H1 : (some ([] : List (List Int))) = some r := by rw [if_pos rfl] at H; exact H
  clear H
  have H := H1
  clear H1
  obtain rfl := Option.some.inj H
  go_enter Try.func63, Try.ntmps63
  go_wp2_with (first | ((with_reducible refine gate_callee (f := 81) rfl ?_); refine goesL_ (some 9) rfl rfl Try.func81 (by kernel_rfl) rfl #[.int .i64 a0] rfl (by (try simp only [List.map_toArray, List.map_cons, List.map_nil]); first | done | rfl | (simp only [List.length_drop, List.length_take]; rfl)) ?_; (with_reducible refine (precode_wrong.calls a0 true _ A2.out).mono ?_); rintro e w' ⟨rfl, ⟨nd, rfl⟩⟩; refine ⟨_, rfl, ?_⟩))
  go_ret
  exact ⟨_, by first | rfl | (simp [errW_none, errW_some] <;> rfl) | (simp [*, errW_none, errW_some] <;> rfl), by first | exact Kd.S_nil _ _ _ _ _ | exact Kd.N_nil _ _ _ _ _ | exact Kd.V_nil _ _ _ _ _ | exact Kd.Q_nil _ _ _ _ _ | exact Kd.R_nil _ _ _ _ _, by repeat (first | (with_reducible first | exact HB.out | apply below_alloc | apply pw_below_drewN | apply below_drew1) | exact HB.out)⟩
 ·replace c3 := Bool.eq_false_iff.mpr c3
  subst c3
  have H1 : ((precode_sparse.f a0).bind fun t126 => (if 0 ≤ (wrap64 (t126 + 2)) then (if (wrap64 (t126 + 2) : Int).toNat ≤ 11728124029610 then ((some (List.replicate (wrap64 (t126 + 2) : Int).toNat [] : List (List Int))).bind fun y127 => (precode_Rows.l0 k a0 t126 y127 (y127.length : Int) 0)) else (none)) else (none))) = some r := by rw [if_neg (show ¬ (false = true) by decide)] at H; exact H
  clear H
  have H := H1
  clear H1
  replace H := Option.bind_eq_some_iff.mp H
  obtain ⟨t126, A40, H⟩ := H
  replace H : (if 0 ≤ (wrap64 (t126 + 2)) then (if (wrap64 (t126 + 2) : Int).toNat ≤ 11728124029610 then ((some (List.replicate (wrap64 (t126 + 2) : Int).toNat [] : List (List Int))).bind fun y127 => (precode_Rows.l0 k a0 t126 y127 (y127.length : Int) 0)) else (none)) else (none)) = some r := H
  have A4 := Aside0.mk A40
  clear A40
  obtain ⟨ji5, hji5⟩ : ∃ j_ : Int, (wrap64 (t126 + 2)) = j_ := ⟨_, rfl⟩
  replace H : (if 0 ≤ (ji5) then (if (ji5 : Int).toNat ≤ 11728124029610 then ((some (List.replicate (ji5 : Int).toNat [] : List (List Int))).bind fun y127 => (precode_Rows.l0 k a0 t126 y127 (y127.length : Int) 0)) else (none)) else (none)) = some r := by first | (rw [hji5] at H; exact H) | (simp only [hji5] at H ⊢; exact H)
  (try rw [hji5] at A2)
  (try rw [hji5] at A4)
  have hji5w : (IntKind.i64.wrap (t126 + 2)) = ji5 := (i64_w _).trans hji5
  by_cases c6 : 0 ≤ (ji5)
  ·rw [if_pos c6] at H
   have c6b0 := eq_true c6
   have c6b1 : decide (0 ≤ (ji5)) = true := decide_eq_true c6
   clear c6
   by_cases c7 : (ji5 : Int).toNat ≤ 11728124029610
   ·rw [if_pos c7] at H
    have c7b0 := eq_true c7
    have c7b1 : decide ((ji5 : Int).toNat ≤ 11728124029610) = true := decide_eq_true c7
    clear c7
    obtain ⟨y127, hy127⟩ : ∃ y_ : List (List Int), y_ = (List.replicate (ji5 : Int).toNat []) := ⟨_, rfl⟩
    replace H : (precode_Rows.l0 k a0 t126 y127 (y127.length : Int) 0) = some r := by first | (rw [hy127]; with_reducible exact H) | (have H2_ := (Option.bind_some _ _).symm.trans H; rw [hy127]; with_reducible exact H2_) | (have H2_ := (Option.bind_some _ _).symm.trans H; with_reducible exact H2_) | with_reducible exact H | (rw [hy127]; exact H) | exact H
    have Ny127 := Aside0.mk hy127
    clear hy127
    have H' := Aside0.mk H
    clear H
    go_enter Try.func63, Try.ntmps63
    go_wp2_with (first | ((with_reducible refine gate_callee (f := 81) rfl ?_); refine goesL_ (some 9) rfl rfl Try.func81 (by kernel_rfl) rfl #[.int .i64 a0] rfl (by (try simp only [List.map_toArray, List.map_cons, List.map_nil]); first | done | rfl | (simp only [List.length_drop, List.length_take]; rfl)) ?_; (with_reducible refine (precode_wrong.calls a0 false _ A2.out).mono ?_); rintro e w' ⟨rfl, ⟨nd, rfl⟩⟩; refine ⟨_, rfl, ?_⟩) | ((with_reducible refine gate_callee (f := 82) rfl ?_); refine goesL_ (some 11) rfl rfl Try.func82 (by kernel_rfl) rfl #[.int .i64 a0] rfl (by (try simp only [List.map_toArray, List.map_cons, List.map_nil]); first | done | rfl | (simp only [List.length_drop, List.length_take]; rfl)) ?_; (with_reducible refine (precode_sparse.calls a0 t126 _ A4.out).mono ?_); rintro e w' ⟨rfl, ⟨nd, rfl⟩⟩; refine ⟨_, rfl, ?_⟩) | ((with_reducible refine gate_dst (N := 14) rfl ?_); refine Kd.S_make (Kd.slice 5 (Kd.int .u8)) _ 31 rfl (N := 14) rfl 22 _ _ rfl ji5 rfl rfl Try.underlying22 (.slice none 0 0) 24 info31 rfl (by decide) (by omega) [] (ok := fun _ => True) (okp := fun _ => True) ⟨_, rfl, Kd.R_nil _ _ _ _ _⟩ (fun _ hk => hk) trivial (of_decide_eq_true (by first | (with_reducible assumption) | assumption)) (Nat.le_trans (Nat.mul_le_mul_right _ (of_decide_eq_true (by first | (with_reducible assumption) | assumption) : ji5.toNat ≤ 11728124029610)) (by omega)) (Below.refl _ _) (Nat.le_refl _) ?_; intro v128 w8 ho9 hb hg_ hnew_; clear hg_ hnew_; (first | rw [← Ny127.out] at ho9 | (simp only [Int.reduceToNat] at ho9; rw [← Ny127.out] at ho9)); have n0_ := Aside0.mk (Kd.S_lower ho9 (below_size (by repeat (first | (with_reducible first | exact HB.out | apply below_alloc | apply pw_below_drewN | apply below_drew1) | exact HB.out)))); have n1_ := Aside0.mk (below_step (by repeat (first | (with_reducible first | exact HB.out | apply below_alloc | apply pw_below_drewN | apply below_drew1) | exact HB.out)) hb); clear HB; have HO129 := n0_; have HB := n1_; clear n0_ n1_; clear hb ho9; obtain ⟨Ao10, co10, eo10⟩ := Kd.S_slice HO129.out; subst eo10))
    go_loopg [17] k (fun kq v17 w' => ∃ (x4_1 : List (List Int)) (x17_1 : Int), v17 = .int .i64 x17_1 ∧ Aside0 (precode_Rows.l0 kq a0 t126 x4_1 (y127.length : Int) x17_1 = some r) ∧ Aside0 (kq ≤ k) ∧ Aside0 (Kd.S (Kd.slice 5 (Kd.int .u8)) 31 w' w.heap.size (fun _ => True) (.slice Ao10 y127.length co10) x4_1) ∧ Aside0 (Below w.heap.size w w'))
    case atStart => exact ⟨(y127), (0), (by first | rfl | (simp; done) | (simp [*]; done)), H', ⟨Nat.le_refl _⟩, ⟨by (with_reducible repeat (first | apply Kd.S_alloc | apply Kd.S_drewN | apply Kd.S_drew)); exact HO129.out⟩, ⟨by repeat (first | (with_reducible first | exact HB.out | apply below_alloc | apply pw_below_drewN | apply below_drew1) | exact HB.out)⟩⟩
    case round =>
     clear H'
     try clear p2
     try clear c3
     try clear c6
     try clear c6b0
     try clear c6b1
     try clear p6
     try clear c7
     try clear c7b0
     try clear c7b1
     try clear c8
     obtain ⟨x4_1, x17_1, rfl, HA, HK1, HO_4, HB⟩ := hrel
     have hl4_1 := (Kd.S_reads' HO_4.out).1
     rw [hl4_1] at HO_4
     (try simp only [hl4_1])
     cases gk with
     | zero => exact absurd HA.out (by simp [precode_Rows.l0])
     | succ k1 =>
      have H := HA.out
      clear HA
      simp only [precode_Rows.l0] at H
      by_cases c11 : x17_1 < (y127.length : Int)
      ·rw [if_pos c11] at H
       have c11b0 : decide (x17_1 < (y127.length : Int)) = true := decide_eq_true c11
       (try (have c11b9 := c11b0; rw [hl4_1] at c11b9))
       clear c11
       by_cases c12 : 0 ≤ a0
       ·rw [if_pos c12] at H
        have c12b0 := eq_true c12
        have c12b1 : decide (0 ≤ a0) = true := decide_eq_true c12
        clear c12
        by_cases c13 : (a0 : Int).toNat ≤ 281474976710656
        ·rw [if_pos c13] at H
         have c13b0 := eq_true c13
         have c13b1 : decide ((a0 : Int).toNat ≤ 281474976710656) = true := decide_eq_true c13
         clear c13
         obtain ⟨y130, hy130⟩ : ∃ y_ : List Int, y_ = (List.replicate (a0 : Int).toNat 0) := ⟨_, rfl⟩
         replace H : (if 0 ≤ x17_1 then (if x17_1 < (x4_1.length : Int) then (precode_Rows.l0 k1 a0 t126 (x4_1.set (x17_1 : Int).toNat y130) (y127.length : Int) (wrap64 (x17_1 + 1))) else (none)) else (none)) = some r := by first | (rw [hy130]; with_reducible exact H) | (have H2_ := (Option.bind_some _ _).symm.trans H; rw [hy130]; with_reducible exact H2_) | (have H2_ := (Option.bind_some _ _).symm.trans H; with_reducible exact H2_) | with_reducible exact H | (rw [hy130]; exact H) | exact H
         have Ny130 := Aside0.mk hy130
         clear hy130
         by_cases c14 : 0 ≤ x17_1
         ·rw [if_pos c14] at H
          have c14b0 : decide (0 ≤ x17_1) = true := decide_eq_true c14
          clear c14
          by_cases c15 : x17_1 < (x4_1.length : Int)
          ·rw [if_pos c15] at H
           have c15b0 : decide (x17_1 < (x4_1.length : Int)) = true := decide_eq_true c15
           clear c15
           obtain ⟨y133, hy133⟩ : ∃ y_ : List (List Int), y_ = (x4_1.set (x17_1 : Int).toNat y130) := ⟨_, rfl⟩
           replace H : (precode_Rows.l0 k1 a0 t126 y133 (y127.length : Int) (wrap64 (x17_1 + 1))) = some r := by first | (rw [hy133]; with_reducible exact H) | (have H2_ := (Option.bind_some _ _).symm.trans H; rw [hy133]; with_reducible exact H2_) | (have H2_ := (Option.bind_some _ _).symm.trans H; with_reducible exact H2_) | with_reducible exact H | (rw [hy133]; exact H) | exact H
           have Ny133 := Aside0.mk hy133
           clear hy133
           have H' := Aside0.mk H
           clear H
           go_wp2_with (first | ((with_reducible refine gate_dst (N := 23) rfl ?_); refine Kd.R_make (Kd.int .u8) _ 5 rfl (N := 23) rfl 31 _ _ rfl a0 rfl rfl Try.underlying31 (.int .u8 0) 1 info5 rfl (by decide) (by omega) 0 (ok := fun _ => True) (okp := fun _ => True) rfl (fun _ hk => hk) trivial (of_decide_eq_true (by first | (with_reducible assumption) | assumption)) (Nat.le_trans (Nat.mul_le_mul_right _ (of_decide_eq_true (by first | (with_reducible assumption) | assumption) : a0.toNat ≤ 281474976710656)) (by omega)) (Below.refl _ _) (Nat.le_refl _) ?_; intro v131 w17 ho18 hb hg_ hnew_; clear hg_ hnew_; (first | rw [← Ny130.out] at ho18 | (simp only [Int.reduceToNat] at ho18; rw [← Ny130.out] at ho18)); have n0_ := Aside0.mk (Kd.S_elder' (by (with_reducible repeat (first | apply Kd.S_alloc | apply Kd.S_drewN | apply Kd.S_drew)); exact HO_4.out) (Kd.R_base ho18) hb); have n1_ := Aside0.mk (Kd.R_lower ho18 (below_size (by repeat (first | (with_reducible first | exact HB.out | apply below_alloc | apply pw_below_drewN | apply below_drew1) | exact HB.out)))); have n2_ := Aside0.mk (below_step (by repeat (first | (with_reducible first | exact HB.out | apply below_alloc | apply pw_below_drewN | apply below_drew1) | exact HB.out)) hb); clear HO_4; clear HB; have HO_4 := n0_; have HO132 := n1_; have HB := n2_; clear n0_ n1_ n2_; clear hb ho18; have p16 : 0 ≤ (x17_1 : Int) := of_decide_eq_true (by first | (with_reducible assumption) | assumption); have q16 : (x17_1 : Int) < ((x4_1.length : Int) : Int) := of_decide_eq_true (by first | (with_reducible assumption) | assumption); obtain ⟨go16, co16, eo16, gb16, gl16, cl16, HG16⟩ := Kd.S_form HO_4.out (by omega); (first | cases eo16 | (injection eo16 with ea_ en_ ec_; (first | subst ea_ | (injection ea_ with ea_; subst ea_)); subst ec_; clear en_)); have GB16 := Aside0.mk gb16; have GG16 := Aside0.mk HG16; clear gb16 gl16 HG16; obtain ⟨_, ce16, hcl16, hM16, hcc16, hfr16, _, _⟩ := Kd.S_elem HO_4.out [] (x17_1 : Int) p16 q16; obtain ⟨ve16_0, rfl, ge16_0⟩ := hM16; have hx16_0 := hcc16 0 _ rfl; have hf16_0 := hfr16 0; (try simp only [show ((Kd.slice 5 (Kd.int .u8))).sz = 1 from rfl, Nat.mul_one, Nat.add_zero] at hx16_0); (try simp only [show ((Kd.slice 5 (Kd.int .u8))).sz = 1 from rfl, Nat.mul_one, Nat.add_zero] at hf16_0); (try clear hM16); clear hcl16 hcc16 hfr16; replace p16 := eq_true p16; replace q16 := eq_true q16; have n_ := Aside0.mk (Kd.S_mono (ok' := (fun k_ => some k_ ≠ (v131 : Value).ownBlock)) HO_4.out (fun k_ hk => hk.2)); clear HO_4; have HO_4 := n_; clear n_; have HX19 := Aside0.mk (show Kd.S (Kd.slice 5 (Kd.int .u8)) 31 w17 w.heap.size (fun k_ => ((fun _ => True)) k_ ∧ ¬ ((fun k_ => some k_ = (v131 : Value).ownBlock)) k_) (.slice (some ⟨go16, 0, none⟩) x4_1.length co10) x4_1 from (by (with_reducible repeat (first | apply Kd.S_alloc | apply Kd.S_drewN | apply Kd.S_drew)); exact Kd.S_mono HO_4.out (fun k_ hk => ⟨trivial, fun e_ => hk e_⟩))); obtain ⟨oki19, ce19, hcl19, hM19, hcc19, hfr19, hoki19, hH19⟩ := Kd.S_elem HX19.out [] (x17_1 : Int) (of_decide_eq_true (by first | (with_reducible assumption) | assumption)) (by have h_ : (x17_1 : Int) < ((x4_1.length : Int) : Int) := of_decide_eq_true (by first | (with_reducible assumption) | assumption); first | exact h_ | (have e_ := (Kd.S_reads' HO_4.out).1; omega) | simpa using h_); obtain ⟨ve19_0, rfl, ge19_0⟩ := hM19; have HP19 := Kd.S_seg hH19 (of_decide_eq_true (by first | (with_reducible assumption) | assumption)) (by have h_ : (x17_1 : Int) < ((x4_1.length : Int) : Int) := of_decide_eq_true (by first | (with_reducible assumption) | assumption); first | exact h_ | (have e_ := (Kd.S_reads' HO_4.out).1; omega) | simpa using h_) (seg := [v131]) (j := 0) (show 1 ≤ 1 from by decide) (x' := y130) (Kd.M_row (Kd.R_mono (Kd.R_tight rfl (Kd.R_mono (ok' := fun k_ => ((fun _ => True)) k_ ∧ k_ ≠ go16) (Kd.R_apart' (HO132.out) (Kd.S_typed HO_4.out) (by decide)) (fun k_ hk => ⟨trivial, fun e_ => (hk.2) (by rw [e_]; rfl)⟩))) (fun _ h_ => Or.inr (h_)))) (fun _ hk => hk) (fun k_ hk_ => ((Kd.R_mono (ok' := fun k_ => ((fun _ => True)) k_ ∧ k_ ≠ go16) (Kd.R_apart' (HO132.out) (Kd.S_typed HO_4.out) (by decide)) (fun k_ hk => ⟨trivial, fun e_ => (hk.2) (by rw [e_]; rfl)⟩))).1 k_ hk_.symm); have hx19_0 := hcc19 0 _ rfl; (try simp only [show ((Kd.slice 5 (Kd.int .u8))).sz = 1 from rfl, Nat.mul_one, Nat.add_zero] at hx19_0); have hf19_0 := hfr19 0; (try simp only [show ((Kd.slice 5 (Kd.int .u8))).sz = 1 from rfl, Nat.mul_one, Nat.add_zero] at hf19_0); (try clear hM19); clear hcl19 hcc19 hfr19 hoki19 hH19; (try simp only [show ((Kd.slice 5 (Kd.int .u8))).sz = 1 from rfl, Nat.mul_one, Nat.add_zero] at HP19)) | ((with_reducible refine gate_store (t := 31) (p := 24) rfl ?_); refine store_event (t := 31) (p := 24) (v := ?vo_w20) (w1 := (w17.setCell ⟨go16, (x17_1 : Int).toNat, none⟩ (v131))) ?hg ?ho ?hn ?hr ?_; (case ho => rfl); (case hg => rfl); (case hn => rfl); (case hr => first | (go_simp; done) | (go_simp; rfl) | (obtain ⟨A_, c_, e_⟩ := Kd.R_slice (Aside0.out (by assumption : Aside0 (Kd.R _ _ _ _ _ v131 _))); rw [e_]; first | (go_simp; done) | (go_simp; rfl))); intro w20 hw; have hg : w17.grownBy w20 (some go16) := (by rw [hw]; exact HP19.2); have hp_ : Kd.S (Kd.slice 5 (Kd.int .u8)) 31 w20 w.heap.size (fun _ => True) (.slice (some ⟨go16, 0, none⟩) x4_1.length co10) y133 := (by rw [hw, Ny133.out]; exact HP19.1); clear HP19; have n0_ := Aside0.mk (hp_); have n1_ := Aside0.mk ((by rw [hw]; exact below_set (HB.out) GB16.out : Below w.heap.size w w20)); clear HO_4; clear HB; clear HO132; have HO_4 := n0_; have HB := n1_; clear n0_ n1_; clear hg hw hp_))
           (try simp only [← hl4_1])
           go_roundg k1
           case measure => have := HK1.out; omega
           case rel => exact ⟨(y133), (wrap64 (x17_1 + 1)), (by first | rfl | (simp; done) | (simp [*]; done)), H', ⟨by have := HK1.out; omega⟩, ⟨by (try simp only [hl4_1]); (with_reducible repeat (first | apply Kd.S_alloc | apply Kd.S_drewN | apply Kd.S_drew)); exact HO_4.out⟩, ⟨by repeat (first | (with_reducible first | exact HB.out | apply below_alloc | apply pw_below_drewN | apply below_drew1) | exact HB.out)⟩⟩
          ·rw [if_neg c15] at H
           exact absurd H (by simp)
         ·rw [if_neg c14] at H
          exact absurd H (by simp)
        ·rw [if_neg c13] at H
         exact absurd H (by simp)
       ·rw [if_neg c12] at H
        exact absurd H (by simp)
      ·rw [if_neg c11] at H
       have c11b0 : decide (x17_1 < (y127.length : Int)) = false := decide_eq_false c11
       (try (have c11b9 := c11b0; rw [hl4_1] at c11b9))
       clear c11
       have H' := Aside0.mk H
       clear H
       go_wp2
       go_loopg [27] k1 (fun kq v27 w' => ∃ (x4_2 : List (List Int)) (x27_2 : Int), v27 = .int .i64 x27_2 ∧ Aside0 (precode_Rows.l1 kq t126 x4_2 a0 x27_2 = some r) ∧ Aside0 (kq ≤ k1) ∧ Aside0 (Kd.S (Kd.slice 5 (Kd.int .u8)) 31 w' w.heap.size (fun _ => True) (.slice Ao10 x4_1.length co10) x4_2) ∧ Aside0 (Below w.heap.size w w'))
       case atStart => exact ⟨(x4_1), (0), (by first | rfl | (simp; done) | (simp [*]; done)), H', ⟨Nat.le_refl _⟩, ⟨by (try simp only [hl4_1]); (with_reducible repeat (first | apply Kd.S_alloc | apply Kd.S_drewN | apply Kd.S_drew)); exact HO_4.out⟩, ⟨by repeat (first | (with_reducible first | exact HB.out | apply below_alloc | apply pw_below_drewN | apply below_drew1) | exact HB.out)⟩⟩
       case round =>
        clear H'
        try clear c1
        try clear p1
        try clear q1
        try clear hx1
        try clear hf1
        try clear p2
        try clear c3
        try clear c6
        try clear c6b0
        try clear c6b1
        try clear p6
        try clear c7
        try clear c7b0
        try clear c7b1
        try clear c8
        try clear c11
        try clear c11b0
        try clear c12
        try clear c12b0
        try clear c12b1
        try clear c13
        try clear c13b0
        try clear c13b1
        try clear c14
        try clear c14b0
        try clear c15
        try clear c15b0
        try clear c16
        try clear p16
        try clear q16
        try clear hx16
        try clear hf16
        try clear c19
        try clear hx19
        try clear hf19
        try clear hx16_0
        try clear hx19_0
        try clear p16
        try clear p2
        try clear p6
        try clear q16
        obtain ⟨x4_2, x27_2, rfl, HA, HK2, HO_4, HB⟩ := hrel
        have hl4_2 := (Kd.S_reads' HO_4.out).1
        rw [hl4_2] at HO_4
        (try simp only [hl4_2])
        cases gk with
        | zero => exact absurd HA.out (by simp [precode_Rows.l1])
        | succ k2 =>
         have H := HA.out
         clear HA
         simp only [precode_Rows.l1] at H
         by_cases c21 : x27_2 < a0
         ·rw [if_pos c21] at H
          have c21b0 : decide (x27_2 < a0) = true := decide_eq_true c21
          clear c21
          by_cases c22 : t126 = 0
          ·rw [if_pos c22] at H
           exact absurd H (by simp)
          ·rw [if_neg c22] at H
           have c22b0 : (t126 == 0) = false := beq_eq_false_iff_ne.mpr c22
           have c22b1 : (t126 != 0) = true := bne_iff_ne.mpr c22
           obtain ⟨ji23, hji23⟩ : ∃ j_ : Int, (Int.tmod x27_2 t126) = j_ := ⟨_, rfl⟩
           replace H : (if 0 ≤ (ji23) then (if (ji23) < (x4_2.length : Int) then (if 0 ≤ x27_2 then (if x27_2 < ((rd_L1 x4_2 (ji23)).length : Int) then ((some (x4_2.set ((ji23) : Int).toNat ((rd_L1 x4_2 (ji23)).set (x27_2 : Int).toNat 1) : List (List Int))).bind fun y137 => (if 0 ≤ (Int.tmod (wrap64 ((wrap64 (3 * x27_2)) + 1)) t126) then (if (Int.tmod (wrap64 ((wrap64 (3 * x27_2)) + 1)) t126) < (x4_2.length : Int) then (if x27_2 < ((rd_L1 y137 (Int.tmod (wrap64 ((wrap64 (3 * x27_2)) + 1)) t126)).length : Int) then (precode_Rows.l2 k2 t126 (y137.set ((Int.tmod (wrap64 ((wrap64 (3 * x27_2)) + 1)) t126) : Int).toNat ((rd_L1 y137 (Int.tmod (wrap64 ((wrap64 (3 * x27_2)) + 1)) t126)).set (x27_2 : Int).toNat 1)) x27_2 a0 x27_2 0) else (none)) else (none)) else (none))) else (none)) else (none)) else (none)) else (none)) = some r := by first | (rw [hji23] at H; exact H) | (simp only [hji23] at H ⊢; exact H)
           by_cases c24 : 0 ≤ (ji23)
           ·rw [if_pos c24] at H
            have c24b0 : decide (0 ≤ (ji23)) = true := decide_eq_true c24
            clear c24
            by_cases c25 : (ji23) < (x4_2.length : Int)
            ·rw [if_pos c25] at H
             have c25b0 : decide ((ji23) < (x4_2.length : Int)) = true := decide_eq_true c25
             clear c25
             by_cases c26 : 0 ≤ x27_2
             ·rw [if_pos c26] at H
              have c26b0 : decide (0 ≤ x27_2) = true := decide_eq_true c26
              clear c26
              by_cases c27 : x27_2 < ((rd_L1 x4_2 (ji23)).length : Int)
              ·rw [if_pos c27] at H
               have c27b0 : decide (x27_2 < ((rd_L1 x4_2 (ji23)).length : Int)) = true := decide_eq_true c27
               clear c27
               obtain ⟨y135, hy135⟩ : ∃ y_ : List Int, y_ = ((rd_L1 x4_2 (ji23)).set (x27_2 : Int).toNat 1) := ⟨_, rfl⟩
               replace H : ((some (x4_2.set ((ji23) : Int).toNat y135 : List (List Int))).bind fun y137 => (if 0 ≤ (Int.tmod (wrap64 ((wrap64 (3 * x27_2)) + 1)) t126) then (if (Int.tmod (wrap64 ((wrap64 (3 * x27_2)) + 1)) t126) < (x4_2.length : Int) then (if x27_2 < ((rd_L1 y137 (Int.tmod (wrap64 ((wrap64 (3 * x27_2)) + 1)) t126)).length : Int) then (precode_Rows.l2 k2 t126 (y137.set ((Int.tmod (wrap64 ((wrap64 (3 * x27_2)) + 1)) t126) : Int).toNat ((rd_L1 y137 (Int.tmod (wrap64 ((wrap64 (3 * x27_2)) + 1)) t126)).set (x27_2 : Int).toNat 1)) x27_2 a0 x27_2 0) else (none)) else (none)) else (none))) = some r := by first | (rw [hy135]; with_reducible exact H) | (have H2_ := (Option.bind_some _ _).symm.trans H; rw [hy135]; with_reducible exact H2_) | (have H2_ := (Option.bind_some _ _).symm.trans H; with_reducible exact H2_) | with_reducible exact H | (rw [hy135]; exact H) | exact H
               have Ny135 := Aside0.mk hy135
               clear hy135
               obtain ⟨y137, hy137⟩ : ∃ y_ : List (List Int), y_ = (x4_2.set ((ji23) : Int).toNat y135) := ⟨_, rfl⟩
               replace H : (if 0 ≤ (Int.tmod (wrap64 ((wrap64 (3 * x27_2)) + 1)) t126) then (if (Int.tmod (wrap64 ((wrap64 (3 * x27_2)) + 1)) t126) < (x4_2.length : Int) then (if x27_2 < ((rd_L1 y137 (Int.tmod (wrap64 ((wrap64 (3 * x27_2)) + 1)) t126)).length : Int) then (precode_Rows.l2 k2 t126 (y137.set ((Int.tmod (wrap64 ((wrap64 (3 * x27_2)) + 1)) t126) : Int).toNat ((rd_L1 y137 (Int.tmod (wrap64 ((wrap64 (3 * x27_2)) + 1)) t126)).set (x27_2 : Int).toNat 1)) x27_2 a0 x27_2 0) else (none)) else (none)) else (none)) = some r := by first | (rw [hy137]; with_reducible exact H) | (have H2_ := (Option.bind_some _ _).symm.trans H; rw [hy137]; with_reducible exact H2_) | (have H2_ := (Option.bind_some _ _).symm.trans H; with_reducible exact H2_) | with_reducible exact H | (rw [hy137]; exact H) | exact H
               have Ny137 := Aside0.mk hy137
               clear hy137
               obtain ⟨ji29, hji29⟩ : ∃ j_ : Int, (Int.tmod (wrap64 ((wrap64 (3 * x27_2)) + 1)) t126) = j_ := ⟨_, rfl⟩
               replace H : (if 0 ≤ (ji29) then (if (ji29) < (x4_2.length : Int) then (if x27_2 < ((rd_L1 y137 (ji29)).length : Int) then (precode_Rows.l2 k2 t126 (y137.set ((ji29) : Int).toNat ((rd_L1 y137 (ji29)).set (x27_2 : Int).toNat 1)) x27_2 a0 x27_2 0) else (none)) else (none)) else (none)) = some r := by first | (rw [hji29] at H; exact H) | (simp only [hji29] at H ⊢; exact H)
               by_cases c30 : 0 ≤ (ji29)
               ·rw [if_pos c30] at H
                have c30b0 : decide (0 ≤ (ji29)) = true := decide_eq_true c30
                clear c30
                by_cases c31 : (ji29) < (x4_2.length : Int)
                ·rw [if_pos c31] at H
                 have c31b0 : decide ((ji29) < (x4_2.length : Int)) = true := decide_eq_true c31
                 clear c31
                 by_cases c32 : x27_2 < ((rd_L1 y137 (ji29)).length : Int)
                 ·rw [if_pos c32] at H
                  have c32b0 : decide (x27_2 < ((rd_L1 y137 (ji29)).length : Int)) = true := decide_eq_true c32
                  clear c32
                  obtain ⟨y139, hy139⟩ : ∃ y_ : List Int, y_ = ((rd_L1 y137 (ji29)).set (x27_2 : Int).toNat 1) := ⟨_, rfl⟩
                  replace H : (precode_Rows.l2 k2 t126 (y137.set ((ji29) : Int).toNat y139) x27_2 a0 x27_2 0) = some r := by first | (rw [hy139]; with_reducible exact H) | (have H2_ := (Option.bind_some _ _).symm.trans H; rw [hy139]; with_reducible exact H2_) | (have H2_ := (Option.bind_some _ _).symm.trans H; with_reducible exact H2_) | with_reducible exact H | (rw [hy139]; exact H) | exact H
                  have Ny139 := Aside0.mk hy139
                  clear hy139
                  obtain ⟨y141, hy141⟩ : ∃ y_ : List (List Int), y_ = (y137.set ((ji29) : Int).toNat y139) := ⟨_, rfl⟩
                  replace H : (precode_Rows.l2 k2 t126 y141 x27_2 a0 x27_2 0) = some r := by first | (rw [hy141]; with_reducible exact H) | (have H2_ := (Option.bind_some _ _).symm.trans H; rw [hy141]; with_reducible exact H2_) | (have H2_ := (Option.bind_some _ _).symm.trans H; with_reducible exact H2_) | with_reducible exact H | (rw [hy141]; exact H) | exact H
                  have Ny141 := Aside0.mk hy141
                  clear hy141
                  have H' := Aside0.mk H
                  clear H
                  have p134 : 0 ≤ ((ji23) : Int) := of_decide_eq_true (by first | (with_reducible assumption) | assumption)
                  have q134 : (ji23) < (x4_2.length : Int) := of_decide_eq_true (by first | (with_reducible assumption) | assumption)
                  obtain ⟨ad134, A134_0, c134_0, e134, hx134_0, hl134_0, hi134_0⟩ := at_L1 (Kd.S_reads' HO_4.out).2.2 (ji23) p134 q134
                  cases e134
                  obtain ⟨ce134, hce134, hMe134, hcc134⟩ := Kd.S_get HO_4.out [] (ji23) p134 (by first | exact q134 | exact of_decide_eq_true (by first | (with_reducible assumption) | assumption) | (have e_ := (Kd.S_reads' HO_4.out).1; omega))
                  obtain ⟨ve134_0, rfl, ge134_0⟩ := hMe134
                  have hv134_0 := hcc134 0 _ rfl
                  rw [Nat.add_zero, show ((Kd.slice 5 (Kd.int .u8))).sz = 1 from rfl, Nat.mul_one] at hv134_0
                  replace hv134_0 := Option.some.inj (hv134_0.symm.trans hx134_0)
                  rw [hv134_0] at ge134_0
                  have HL134_0 := Aside0.mk (show Kd.R (Kd.int .u8) 5 _ _ _ _ (rd_L1 x4_2 (ji23)) from ge134_0)
                  clear hv134_0 ge134_0
                  have HX134_0 := Aside0.mk hx134_0
                  clear hcc134 hce134
                  have HR134_0 := Aside0.mk hi134_0
                  have HC134_0 := Aside0.mk hl134_0
                  clear hi134_0 hl134_0
                  replace p134 := eq_true p134
                  replace q134 := eq_true q134
                  have p28 : 0 ≤ (x27_2 : Int) := of_decide_eq_true (by first | (with_reducible assumption) | assumption)
                  have q28 : (x27_2 : Int) < (((rd_L1 x4_2 (ji23)).length : Int) : Int) := of_decide_eq_true (by first | (with_reducible assumption) | assumption)
                  obtain ⟨go28, co28, eo28, gb28, gl28, cl28, HG28⟩ := Kd.R_form HL134_0.out (by omega)
                  (first | cases eo28 | (injection eo28 with ea_ en_ ec_; (first | subst ea_ | (injection ea_ with ea_; subst ea_)); subst ec_; clear en_))
                  have GB28 := Aside0.mk gb28
                  have GG28 := Aside0.mk HG28
                  clear gb28 gl28 HG28
                  obtain ⟨hx28_0, hf28_0⟩ := Kd.R_celln 0 HL134_0.out (x27_2 : Int) p28 q28
                  replace p28 := eq_true p28
                  replace q28 := eq_true q28
                  have hq34 : ((ji23) : Int) < (x4_2.length : Int) := (by have h_ : ((ji23) : Int) < ((x4_2.length : Int) : Int) := of_decide_eq_true (by first | (with_reducible assumption) | assumption); first | exact h_ | (have e_ := (Kd.S_reads' HO_4.out).1; omega) | simpa only [List.length_set, List.length_set] using h_)
                  obtain ⟨oki34, ce34, hcl34, hM34, hcc34, hok34, hbk34⟩ := Kd.S_borrow HO_4.out [] ((ji23) : Int) (of_decide_eq_true (by first | (with_reducible assumption) | assumption)) hq34
                  obtain ⟨ve34_0, rfl, ge34_0⟩ := hM34
                  have hv34 := hcc34 0 _ rfl
                  rw [Nat.add_zero, show ((Kd.slice 5 (Kd.int .u8))).sz = 1 from rfl, Nat.mul_one] at hv34
                  replace hv34 := Option.some.inj (hv34.symm.trans HX134_0.out)
                  subst hv34
                  clear hcc34 hcl34
                  replace ge34_0 := (show Kd.R (Kd.int .u8) 5 _ _ _ _ (rd_L1 x4_2 (ji23)) from ge34_0)
                  have HP34 := Kd.R_putg ge34_0 (x27_2 : Int) 1
                  go_wp2_with (first | ((with_reducible refine gate_store (t := 5) (p := 37) rfl ?_); refine store_event (t := 5) (p := 37) (v := ?vo_w35) (w1 := (wr.setCell ⟨go28, (x27_2 : Int).toNat, none⟩ (.int .u8 1))) ?hg ?ho ?hn ?hr ?_; (case ho => rfl); (case hg => rfl); (case hn => rfl); (case hr => first | (go_simp; done) | (go_simp; rfl)); intro w35 hw; have hg : wr.grownBy w35 (some go28) := (by rw [hw]; exact HP34.2); have hz_ : Kd.R (Kd.int .u8) 5 w35 w.heap.size oki34 (.slice (some ⟨go28, 0, none⟩) (rd_L1 x4_2 (ji23)).length c134_0) y135 := (by rw [hw, Ny135.out]; exact HP34.1); have hp_ : Kd.S (Kd.slice 5 (Kd.int .u8)) 31 w35 w.heap.size (fun _ => True) (.slice (some ad134) x4_2.length co10) y137 := (by rw [Ny137.out]; exact hbk34 hg (fun k_ e_ => by injection e_ with e_; subst e_; exact ge34_0.1 _ rfl) (Kd.M_row hz_)); have hm_ := Kd.R_mono hz_ hok34; clear HP34 hbk34; have n0_ := Aside0.mk (hp_); have n1_ := Aside0.mk ((by rw [hw]; exact below_set (HB.out) GB28.out : Below w.heap.size w w35)); have n2_ := Aside0.mk (hm_); have n3_ := Aside0.mk ((Kd.R_reads' hm_).2.1); clear HO_4; clear HB; clear HL134_0; have HO_4 := n0_; have HB := n1_; have HL147 := n2_; have HC136 := n3_; clear n0_ n1_ n2_ n3_; clear hg hw hp_ hz_ hm_ hok34; have p138 : 0 ≤ ((ji29) : Int) := of_decide_eq_true (by first | (with_reducible assumption) | assumption); have q138 : (ji29) < (y137.length : Int) := (by have h_ : ((ji29) : Int) < ((x4_2.length : Int) : Int) := of_decide_eq_true (by first | (with_reducible assumption) | assumption); first | (have e_ := (Kd.S_reads' HO_4.out).1; omega) | simpa only [Ny137.out, List.length_set] using h_); have ql138 : (((ji29) : Int) < ((x4_2.length : Int) : Int)) = True := eq_true (of_decide_eq_true (by first | (with_reducible assumption) | assumption)); obtain ⟨ad138, A138_0, c138_0, e138, hx138_0, hl138_0, hi138_0⟩ := at_L1 (Kd.S_reads' HO_4.out).2.2 (ji29) p138 q138; obtain rfl : ad134 = ad138 := (by injection e138); obtain ⟨ce138, hce138, hMe138, hcc138⟩ := Kd.S_get HO_4.out [] (ji29) p138 (by first | exact q138 | exact of_decide_eq_true (by first | (with_reducible assumption) | assumption) | (have e_ := (Kd.S_reads' HO_4.out).1; omega)); obtain ⟨ve138_0, rfl, ge138_0⟩ := hMe138; have hv138_0 := hcc138 0 _ rfl; rw [Nat.add_zero, show ((Kd.slice 5 (Kd.int .u8))).sz = 1 from rfl, Nat.mul_one] at hv138_0; replace hv138_0 := Option.some.inj (hv138_0.symm.trans hx138_0); rw [hv138_0] at ge138_0; have HL138_0 := Aside0.mk (show Kd.R (Kd.int .u8) 5 _ _ _ _ (rd_L1 y137 (ji29)) from ge138_0); clear hv138_0 ge138_0; have HX138_0 := Aside0.mk hx138_0; clear hcc138 hce138; have HR138_0 := Aside0.mk hi138_0; have HC138_0 := Aside0.mk hl138_0; clear hi138_0 hl138_0; replace p138 := eq_true p138; replace q138 := eq_true q138; have p33 : 0 ≤ (x27_2 : Int) := of_decide_eq_true (by first | (with_reducible assumption) | assumption); have q33 : (x27_2 : Int) < (((rd_L1 y137 (ji29)).length : Int) : Int) := of_decide_eq_true (by first | (with_reducible assumption) | assumption); obtain ⟨go33, co33, eo33, gb33, gl33, cl33, HG33⟩ := Kd.R_form HL138_0.out (by omega); (first | cases eo33 | (injection eo33 with ea_ en_ ec_; (first | subst ea_ | (injection ea_ with ea_; subst ea_)); subst ec_; clear en_)); have GB33 := Aside0.mk gb33; have GG33 := Aside0.mk HG33; clear gb33 gl33 HG33; obtain ⟨hx33_0, hf33_0⟩ := Kd.R_celln 0 HL138_0.out (x27_2 : Int) p33 q33; replace p33 := eq_true p33; replace q33 := eq_true q33; have hq36 : ((ji29) : Int) < (y137.length : Int) := (by have h_ : ((ji29) : Int) < ((x4_2.length : Int) : Int) := of_decide_eq_true (by first | (with_reducible assumption) | assumption); first | exact h_ | (have e_ := (Kd.S_reads' HO_4.out).1; omega) | simpa only [Ny137.out, List.length_set] using h_); obtain ⟨oki36, ce36, hcl36, hM36, hcc36, hok36, hbk36⟩ := Kd.S_borrow HO_4.out [] ((ji29) : Int) (of_decide_eq_true (by first | (with_reducible assumption) | assumption)) (by first | exact hq36 | (have e_ := (Kd.S_reads' HO_4.out).1; omega)); obtain ⟨ve36_0, rfl, ge36_0⟩ := hM36; have hv36 := hcc36 0 _ rfl; rw [Nat.add_zero, show ((Kd.slice 5 (Kd.int .u8))).sz = 1 from rfl, Nat.mul_one] at hv36; replace hv36 := Option.some.inj (hv36.symm.trans HX138_0.out); subst hv36; clear hcc36 hcl36; replace ge36_0 := (show Kd.R (Kd.int .u8) 5 _ _ _ _ (rd_L1 y137 (ji29)) from ge36_0); have HP36 := Kd.R_putg ge36_0 (x27_2 : Int) 1) | ((with_reducible refine gate_store (t := 5) (p := 47) rfl ?_); refine store_event (t := 5) (p := 47) (v := ?vo_w37) (w1 := (w35.setCell ⟨go33, (x27_2 : Int).toNat, none⟩ (.int .u8 1))) ?hg ?ho ?hn ?hr ?_; (case ho => rfl); (case hg => rfl); (case hn => rfl); (case hr => first | (go_simp; done) | (go_simp; rfl)); intro w37 hw; have hg : w35.grownBy w37 (some go33) := (by rw [hw]; exact HP36.2); have hz_ : Kd.R (Kd.int .u8) 5 w37 w.heap.size oki36 (.slice (some ⟨go33, 0, none⟩) (rd_L1 y137 (ji29)).length c138_0) y139 := (by rw [hw, Ny139.out]; exact HP36.1); have hp_ : Kd.S (Kd.slice 5 (Kd.int .u8)) 31 w37 w.heap.size (fun _ => True) (.slice (some ad134) x4_2.length co10) y141 := (by rw [Ny141.out]; exact hbk36 hg (fun k_ e_ => by injection e_ with e_; subst e_; exact ge36_0.1 _ rfl) (Kd.M_row hz_)); have hm_ := Kd.R_mono hz_ hok36; clear HP36 hbk36; have n0_ := Aside0.mk (hp_); have n1_ := Aside0.mk ((by rw [hw]; exact below_set (HB.out) GB33.out : Below w.heap.size w w37)); have n2_ := Aside0.mk (hm_); have n3_ := Aside0.mk ((Kd.R_reads' hm_).2.1); clear HO_4; clear HB; clear HL147; clear HL138_0; have HO_4 := n0_; have HB := n1_; have HL148 := n2_; have HC140 := n3_; clear n0_ n1_ n2_ n3_; clear hg hw hp_ hz_ hm_ hok36))
                  go_loopg [48] k2 (fun kq v48 w' => ∃ (x4_3 : List (List Int)) (x48_3 : Int), v48 = .int .i64 x48_3 ∧ Aside0 (precode_Rows.l2 kq t126 x4_3 x27_2 a0 x27_2 x48_3 = some r) ∧ Aside0 (kq ≤ k2) ∧ Aside0 (Kd.S (Kd.slice 5 (Kd.int .u8)) 31 w' w.heap.size (fun _ => True) (.slice (some ad134) x4_2.length co10) x4_3) ∧ Aside0 (Below w.heap.size w w'))
                  case atStart => exact ⟨(y141), (0), (by first | rfl | (simp; done) | (simp [*]; done)), H', ⟨Nat.le_refl _⟩, ⟨by (try simp only [hl4_1]); (try simp only [hl4_2]); (with_reducible repeat (first | apply Kd.S_alloc | apply Kd.S_drewN | apply Kd.S_drew)); exact HO_4.out⟩, ⟨by repeat (first | (with_reducible first | exact HB.out | apply below_alloc | apply pw_below_drewN | apply below_drew1) | exact HB.out)⟩⟩
                  case round =>
                   clear H'
                   try clear c1
                   try clear p1
                   try clear q1
                   try clear hx1
                   try clear hf1
                   try clear c2
                   try clear p2
                   try clear q2
                   try clear hx2
                   try clear hf2
                   try clear c3
                   try clear p3
                   try clear q3
                   try clear hx3
                   try clear hf3
                   try clear c6
                   try clear c6b0
                   try clear c6b1
                   try clear p6
                   try clear c7
                   try clear c7b0
                   try clear c7b1
                   try clear c8
                   try clear c11
                   try clear c11b0
                   try clear c12
                   try clear c12b0
                   try clear c12b1
                   try clear c13
                   try clear c13b0
                   try clear c13b1
                   try clear p13
                   try clear q13
                   try clear hx13
                   try clear c14
                   try clear c14b0
                   try clear c15
                   try clear c15b0
                   try clear c16
                   try clear p16
                   try clear q16
                   try clear hx16
                   try clear hf16
                   try clear c19
                   try clear hx19
                   try clear hf19
                   try clear c21
                   try clear c21b0
                   try clear c22
                   try clear c22b0
                   try clear c22b1
                   try clear c24
                   try clear c24b0
                   try clear c25
                   try clear c25b0
                   try clear c26
                   try clear c26b0
                   try clear c27
                   try clear c27b0
                   try clear p28
                   try clear q28
                   try clear hx28
                   try clear hf28
                   try clear c30
                   try clear c30b0
                   try clear c31
                   try clear c31b0
                   try clear c32
                   try clear c32b0
                   try clear p33
                   try clear q33
                   try clear hx33
                   try clear hf33
                   try clear c34
                   try clear q34
                   try clear c36
                   try clear q36
                   try clear hx134_0
                   try clear hx138_0
                   try clear hx16_0
                   try clear hx19_0
                   try clear hx28_0
                   try clear hx33_0
                   try clear p1
                   try clear p134
                   try clear p138
                   try clear p16
                   try clear p2
                   try clear p28
                   try clear p33
                   try clear p6
                   try clear q1
                   try clear q134
                   try clear q138
                   try clear q16
                   try clear q28
                   try clear q33
                   obtain ⟨x4_3, x48_3, rfl, HA, HK3, HO_4, HB⟩ := hrel
                   have hl4_3 := (Kd.S_reads' HO_4.out).1
                   rw [hl4_3] at HO_4
                   (try simp only [hl4_3])
                   cases gk with
                   | zero => exact absurd HA.out (by simp [precode_Rows.l2])
                   | succ k3 =>
                    have H := HA.out
                    clear HA
                    simp only [precode_Rows.l2] at H
                    by_cases c38 : x48_3 < 2
                    ·rw [if_pos c38] at H
                     have c38b0 : decide (x48_3 < 2) = true := decide_eq_true c38
                     clear c38
                     obtain ⟨ji39, hji39⟩ : ∃ j_ : Int, (wrap64 (t126 + x48_3)) = j_ := ⟨_, rfl⟩
                     replace H : (if 0 ≤ (ji39) then (if (ji39) < (x4_3.length : Int) then ((field_Pow.f k3 2 (wrap64 ((wrap64 (x27_2 + 1)) * (wrap64 (x48_3 + 1))))).bind fun t143 => (if 0 ≤ x27_2 then (if x27_2 < ((rd_L1 x4_3 (ji39)).length : Int) then (precode_Rows.l2 k3 t126 (x4_3.set ((ji39) : Int).toNat ((rd_L1 x4_3 (ji39)).set (x27_2 : Int).toNat t143)) x27_2 a0 x27_2 (wrap64 (x48_3 + 1))) else (none)) else (none))) else (none)) else (none)) = some r := by first | (rw [hji39] at H; exact H) | (simp only [hji39] at H ⊢; exact H)
                     have hji39w : (IntKind.i64.wrap (t126 + x48_3)) = ji39 := (i64_w _).trans hji39
                     by_cases c40 : 0 ≤ (ji39)
                     ·rw [if_pos c40] at H
                      have c40b0 : decide (0 ≤ (ji39)) = true := decide_eq_true c40
                      clear c40
                      by_cases c41 : (ji39) < (x4_3.length : Int)
                      ·rw [if_pos c41] at H
                       have c41b0 : decide ((ji39) < (x4_3.length : Int)) = true := decide_eq_true c41
                       clear c41
                       replace H := Option.bind_eq_some_iff.mp H
                       obtain ⟨t143, A420, H⟩ := H
                       replace H : (if 0 ≤ x27_2 then (if x27_2 < ((rd_L1 x4_3 (ji39)).length : Int) then (precode_Rows.l2 k3 t126 (x4_3.set ((ji39) : Int).toNat ((rd_L1 x4_3 (ji39)).set (x27_2 : Int).toNat t143)) x27_2 a0 x27_2 (wrap64 (x48_3 + 1))) else (none)) else (none)) = some r := H
                       have A42 := Aside0.mk A420
                       clear A420
                       by_cases c43 : 0 ≤ x27_2
                       ·rw [if_pos c43] at H
                        have c43b0 : decide (0 ≤ x27_2) = true := decide_eq_true c43
                        clear c43
                        by_cases c44 : x27_2 < ((rd_L1 x4_3 (ji39)).length : Int)
                        ·rw [if_pos c44] at H
                         have c44b0 : decide (x27_2 < ((rd_L1 x4_3 (ji39)).length : Int)) = true := decide_eq_true c44
                         clear c44
                         obtain ⟨y144, hy144⟩ : ∃ y_ : List Int, y_ = ((rd_L1 x4_3 (ji39)).set (x27_2 : Int).toNat t143) := ⟨_, rfl⟩
                         replace H : (precode_Rows.l2 k3 t126 (x4_3.set ((ji39) : Int).toNat y144) x27_2 a0 x27_2 (wrap64 (x48_3 + 1))) = some r := by first | (rw [hy144]; with_reducible exact H) | (have H2_ := (Option.bind_some _ _).symm.trans H; rw [hy144]; with_reducible exact H2_) | (have H2_ := (Option.bind_some _ _).symm.trans H; with_reducible exact H2_) | with_reducible exact H | (rw [hy144]; exact H) | exact H
                         have Ny144 := Aside0.mk hy144
                         clear hy144
                         obtain ⟨y146, hy146⟩ : ∃ y_ : List (List Int), y_ = (x4_3.set ((ji39) : Int).toNat y144) := ⟨_, rfl⟩
                         replace H : (precode_Rows.l2 k3 t126 y146 x27_2 a0 x27_2 (wrap64 (x48_3 + 1))) = some r := by first | (rw [hy146]; with_reducible exact H) | (have H2_ := (Option.bind_some _ _).symm.trans H; rw [hy146]; with_reducible exact H2_) | (have H2_ := (Option.bind_some _ _).symm.trans H; with_reducible exact H2_) | with_reducible exact H | (rw [hy146]; exact H) | exact H
                         have Ny146 := Aside0.mk hy146
                         clear hy146
                         have H' := Aside0.mk H
                         clear H
                         try go_wp2
                         have n0_ := Aside0.mk (Kd.S_drew HO_4.out)
                         have n1_ := Aside0.mk (below_drew1 HB.out)
                         clear HO_4
                         clear HB
                         have HO_4 := n0_
                         have HB := n1_
                         clear n0_ n1_
                         have p142 : 0 ≤ ((ji39) : Int) := of_decide_eq_true (by first | (with_reducible assumption) | assumption)
                         have q142 : (ji39) < (x4_3.length : Int) := of_decide_eq_true (by first | (with_reducible assumption) | assumption)
                         obtain ⟨ad142, A142_0, c142_0, e142, hx142_0, hl142_0, hi142_0⟩ := at_L1 (Kd.S_reads' HO_4.out).2.2 (ji39) p142 q142
                         obtain rfl : ad134 = ad142 := (by injection e142)
                         obtain ⟨ce142, hce142, hMe142, hcc142⟩ := Kd.S_get HO_4.out [] (ji39) p142 (by first | exact q142 | exact of_decide_eq_true (by first | (with_reducible assumption) | assumption) | (have e_ := (Kd.S_reads' HO_4.out).1; omega))
                         obtain ⟨ve142_0, rfl, ge142_0⟩ := hMe142
                         have hv142_0 := hcc142 0 _ rfl
                         rw [Nat.add_zero, show ((Kd.slice 5 (Kd.int .u8))).sz = 1 from rfl, Nat.mul_one] at hv142_0
                         replace hv142_0 := Option.some.inj (hv142_0.symm.trans hx142_0)
                         rw [hv142_0] at ge142_0
                         have HL142_0 := Aside0.mk (show Kd.R (Kd.int .u8) 5 _ _ _ _ (rd_L1 x4_3 (ji39)) from ge142_0)
                         clear hv142_0 ge142_0
                         have HX142_0 := Aside0.mk hx142_0
                         clear hcc142 hce142
                         have HR142_0 := Aside0.mk hi142_0
                         have HC142_0 := Aside0.mk hl142_0
                         clear hi142_0 hl142_0
                         replace p142 := eq_true p142
                         replace q142 := eq_true q142
                         refine start_ (n := 15) (S := fun w' => w'.cell? (ad134.add ((ji39)).toNat) = some (.slice A142_0 (rd_L1 x4_3 (ji39)).length c142_0)) (ds := [14]) #[false, false, false, false, false, false, false, false, false, false, false, false, false, false, false] (by kernel_rfl) rfl rfl (hx142_0) (fun hHeld => ?_); refine with_tabW precode_Rows.tab18 precode_Rows.bits18 (fun HT_ HW_ => ?_)
                         generalize wr.drew = w46 at HO_4 HB HL142_0 HR142_0 HX142_0 hx142_0 hHeld ⊢
                         refine pure_ (i := 0) (N := some 51) (v := ?_) (a' := ?_) #[true, false, false, false, false, false, false, false, false, false, false, false, false, false, false] rfl rfl (any_of HT_.out (by kernel_rfl)) (fun _ _ _ h => h) (Or.inl ⟨by rfl, ?_⟩) ?_ ?_
                         rotate_left
                         ·intro w'
                          go_simp
                          with_reducible rfl
                         rotate_left
                         ·simp only [Act.put, List.setIfInBounds_toArray, List.set_cons_zero, List.set_cons_succ, i64_w, i32_w]
                          rfl
                         refine pure_ (i := 1) (N := some 52) (v := ?_) (a' := ?_) #[true, true, false, false, false, false, false, false, false, false, false, false, false, false, false] rfl rfl (any_of HT_.out (by kernel_rfl)) (fun _ _ _ h => h) (Or.inl ⟨by rfl, ?_⟩) ?_ ?_
                         rotate_left
                         ·intro w'
                          go_simp
                          with_reducible rfl
                         rotate_left
                         ·simp only [Act.put, List.setIfInBounds_toArray, List.set_cons_zero, List.set_cons_succ, i64_w, i32_w]
                          rfl
                         refine pure_ (i := 2) (N := some 53) (v := ?_) (a' := ?_) #[true, true, true, false, false, false, false, false, false, false, false, false, false, false, false] rfl rfl (any_of HT_.out (by kernel_rfl)) (fun _ _ _ h => h) (Or.inl ⟨by rfl, ?_⟩) ?_ ?_
                         rotate_left
                         ·intro w'
                          go_simp
                          with_reducible rfl
                         rotate_left
                         ·simp only [Act.put, List.setIfInBounds_toArray, List.set_cons_zero, List.set_cons_succ, i64_w, i32_w]
                          rfl
                         refine pure_ (i := 3) (N := some 54) (v := ?_) (a' := ?_) #[true, true, true, true, false, false, false, false, false, false, false, false, false, false, false] rfl rfl (any_of HT_.out (by kernel_rfl)) (fun _ _ _ h => h) (Or.inl ⟨by rfl, ?_⟩) ?_ ?_
                         rotate_left
                         ·intro w'
                          go_simp
                          with_reducible rfl
                         rotate_left
                         ·simp only [Act.put, List.setIfInBounds_toArray, List.set_cons_zero, List.set_cons_succ, i64_w, i32_w]
                          rfl
                         refine pure_ (i := 4) (N := some 55) (v := ?_) (a' := ?_) #[true, true, true, true, true, false, false, false, false, false, false, false, false, false, false] rfl rfl (any_of HT_.out (by kernel_rfl)) (fun _ _ _ h => h) (Or.inl ⟨by rfl, ?_⟩) ?_ ?_
                         rotate_left
                         ·intro w'
                          go_simp
                          with_reducible rfl
                         rotate_left
                         ·simp only [Act.put, List.setIfInBounds_toArray, List.set_cons_zero, List.set_cons_succ, i64_w, i32_w]
                          rfl
                         refine pure_ (i := 6) (N := some 57) (v := ?_) (a' := ?_) #[true, true, true, true, true, false, true, false, false, false, false, false, false, false, false] rfl rfl (any_of HT_.out (by kernel_rfl)) (fun _ _ _ h => h) (Or.inl ⟨by rfl, ?_⟩) ?_ ?_
                         rotate_left
                         ·intro w'
                          go_simp
                          with_reducible rfl
                         rotate_left
                         ·simp only [Act.put, List.setIfInBounds_toArray, List.set_cons_zero, List.set_cons_succ, i64_w, i32_w]
                          rfl
                         refine pure_ (i := 7) (N := some 58) (v := ?_) (a' := ?_) #[true, true, true, true, true, false, true, true, false, false, false, false, false, false, false] rfl rfl (any_of HT_.out (by kernel_rfl)) (fun _ _ _ h => h) (Or.inl ⟨by rfl, ?_⟩) ?_ ?_
                         rotate_left
                         ·intro w'
                          go_simp
                          with_reducible rfl
                         rotate_left
                         ·simp only [Act.put, List.setIfInBounds_toArray, List.set_cons_zero, List.set_cons_succ, i64_w, i32_w]
                          rfl
                         refine pure_ (i := 8) (N := some 59) (v := ?_) (a' := ?_) #[true, true, true, true, true, false, true, true, true, false, false, false, false, false, false] rfl rfl (any_of HT_.out (by kernel_rfl)) (fun _ _ _ h => h) (Or.inl ⟨by rfl, ?_⟩) ?_ ?_
                         rotate_left
                         ·intro w'
                          go_simp
                          with_reducible rfl
                         rotate_left
                         ·simp only [Act.put, List.setIfInBounds_toArray, List.set_cons_zero, List.set_cons_succ, i64_w, i32_w]
                          rfl
                         refine pure_ (i := 9) (N := some 60) (v := ?_) (a' := ?_) #[true, true, true, true, true, false, true, true, true, true, false, false, false, false, false] rfl rfl (any_of HT_.out (by kernel_rfl)) (fun _ _ _ h => h) (Or.inl ⟨by rfl, ?_⟩) ?_ ?_
                         rotate_left
                         ·intro w'
                          go_simp
                          with_reducible rfl
                         rotate_left
                         ·simp only [Act.put, List.setIfInBounds_toArray, List.set_cons_zero, List.set_cons_succ, i64_w, i32_w]
                          rfl
                         refine pure_ (i := 10) (N := some 61) (v := ?_) (a' := ?_) #[true, true, true, true, true, false, true, true, true, true, true, false, false, false, false] rfl rfl (any_of HT_.out (by kernel_rfl)) (fun _ _ _ h => h) (Or.inl ⟨by rfl, ?_⟩) ?_ ?_
                         rotate_left
                         ·intro w'
                          go_simp
                          with_reducible rfl
                         rotate_left
                         ·simp only [Act.put, List.setIfInBounds_toArray, List.set_cons_zero, List.set_cons_succ, i64_w, i32_w]
                          rfl
                         refine pure_ (i := 11) (N := some 62) (v := ?_) (a' := ?_) #[true, true, true, true, true, false, true, true, true, true, true, true, false, false, false] rfl rfl (any_of HT_.out (by kernel_rfl)) (fun _ _ _ h => h) (Or.inl ⟨by rfl, ?_⟩) ?_ ?_
                         rotate_left
                         ·intro w'
                          go_simp
                          with_reducible rfl
                         rotate_left
                         ·simp only [Act.put, List.setIfInBounds_toArray, List.set_cons_zero, List.set_cons_succ, i64_w, i32_w]
                          rfl
                         refine take_ (i := 5) (N := some 56) (v := ?_) (a' := ?_) #[true, true, true, true, true, true, true, true, true, true, true, true, false, false, false] rfl rfl (take_ofW HT_.out HW_.out (by kernel_rfl)) (fun _ _ _ h => h) (Or.inl ⟨by rfl, ?_⟩) hHeld ?_ ?_
                         rotate_left
                         ·intro w' s0
                          go_simp
                          with_reducible rfl
                         rotate_left
                         ·simp only [Act.put, List.setIfInBounds_toArray, List.set_cons_zero, List.set_cons_succ, i64_w, i32_w]
                          rfl
                         refine one_ (i := 12) (N := some 63) #[true, true, true, true, true, true, true, true, true, true, true, true, true, false, false] rfl rfl (one_of HT_.out (by kernel_rfl)) (by decide) (fun K hK => ?_)
                         refine goes_ Try.func83 (by kernel_rfl) rfl #[.int .u8 2, .int .i64 (wrap64 ((wrap64 (x27_2 + 1)) * (wrap64 (x48_3 + 1))))] (by rfl) rfl rfl (by (try simp only [List.map_toArray, List.map_cons, List.map_nil]); first | done | rfl | (simp only [List.length_drop, List.length_take]; rfl)) ?_
                         with_reducible refine (field_Pow.calls k3 2 (wrap64 ((wrap64 (x27_2 + 1)) * (wrap64 (x48_3 + 1)))) t143 _ A42.out).mono ?_
                         rintro e w' ⟨rfl, ⟨nd, rfl⟩⟩
                         refine ⟨_, rfl, ?_⟩
                         have p45 : 0 ≤ (x27_2 : Int) := of_decide_eq_true (by first | (with_reducible assumption) | assumption)
                         have q45 : (x27_2 : Int) < (((rd_L1 x4_3 (ji39)).length : Int) : Int) := of_decide_eq_true (by first | (with_reducible assumption) | assumption)
                         obtain ⟨go45, co45, eo45, gb45, gl45, cl45, HG45⟩ := Kd.R_form HL142_0.out (by omega)
                         (first | cases eo45 | (injection eo45 with ea_ en_ ec_; (first | subst ea_ | (injection ea_ with ea_; subst ea_)); subst ec_; clear en_))
                         have GB45 := Aside0.mk gb45
                         have GG45 := Aside0.mk HG45
                         clear gb45 gl45 HG45
                         obtain ⟨hx45_0, hf45_0⟩ := Kd.R_celln 0 HL142_0.out (x27_2 : Int) p45 q45
                         replace p45 := eq_true p45
                         replace q45 := eq_true q45
                         have hq47 : ((ji39) : Int) < (x4_3.length : Int) := (by have h_ : ((ji39) : Int) < ((x4_3.length : Int) : Int) := of_decide_eq_true (by first | (with_reducible assumption) | assumption); first | exact h_ | (have e_ := (Kd.S_reads' HO_4.out).1; omega) | simpa only [List.length_set, List.length_set] using h_)
                         obtain ⟨oki47, ce47, hcl47, hM47, hcc47, hok47, hbk47⟩ := Kd.S_borrow HO_4.out [] ((ji39) : Int) (of_decide_eq_true (by first | (with_reducible assumption) | assumption)) hq47
                         obtain ⟨ve47_0, rfl, ge47_0⟩ := hM47
                         have hv47 := hcc47 0 _ rfl
                         rw [Nat.add_zero, show ((Kd.slice 5 (Kd.int .u8))).sz = 1 from rfl, Nat.mul_one] at hv47
                         replace hv47 := Option.some.inj (hv47.symm.trans HX142_0.out)
                         subst hv47
                         clear hcc47 hcl47
                         replace ge47_0 := (show Kd.R (Kd.int .u8) 5 _ _ _ _ (rd_L1 x4_3 (ji39)) from ge47_0)
                         have HP47 := Kd.R_putg ge47_0 (x27_2 : Int) t143
                         rw [← Ny144.out] at HP47
                         have HS47 := hbk47 HP47.2 (fun k_ e_ => by injection e_ with e_; subst e_; exact ge47_0.1 _ rfl) (x' := y144) (Kd.M_row HP47.1)
                         rw [← Ny146.out] at HS47
                         have HQ47 := Aside0.mk HS47
                         clear HP47 HS47 hbk47 hok47
                         refine hK.out _ _ (hHeld) (fun hHeld => ?_)
                         clear hK K
                         refine norm_ (a' := ?_) ?_ ?_
                         rotate_left
                         ·show Act.put _ (some 63) _ = _
                          simp only [Act.put, List.setIfInBounds_toArray, List.set_cons_zero, List.set_cons_succ, i64_w, i32_w]
                          rfl
                         refine pure_ (i := 13) (N := some 64) (v := ?_) (a' := ?_) #[true, true, true, true, true, true, true, true, true, true, true, true, true, true, false] rfl rfl (any_of HT_.out (by kernel_rfl)) (fun _ _ _ h => h) (Or.inl ⟨by rfl, ?_⟩) ?_ ?_
                         rotate_left
                         ·intro w'
                          go_simp
                          with_reducible rfl
                         rotate_left
                         ·simp only [Act.put, List.setIfInBounds_toArray, List.set_cons_zero, List.set_cons_succ, i64_w, i32_w]
                          rfl
                         refine last_ (i := 14) (N := none) #[true, true, true, true, true, true, true, true, true, true, true, true, true, true, true] rfl rfl (one_of HT_.out (by kernel_rfl)) (by decide) (fun K hK => ?_)
                         refine skip_ (w1 := ?_) (by rfl) rfl ?_ ?_
                         rotate_left
                         ·go_simp
                          rfl
                         refine hK.out _ _ ?_
                         clear hK K
                         refine done_ (done_of HT_.out (by kernel_rfl)) ?_
                         try go_wp2
                         (try simp only [← hl4_3])
                         go_roundg k3
                         case measure => have := HK1.out; have := HK2.out; have := HK3.out; omega
                         case rel => exact ⟨(y146), (wrap64 (x48_3 + 1)), (by first | rfl | (simp; done) | (simp [*]; done)), H', ⟨by have := HK1.out; have := HK2.out; have := HK3.out; omega⟩, ⟨by (try simp only [hl4_1]); (try simp only [hl4_2]); (try simp only [hl4_3]); (with_reducible repeat (first | apply Kd.S_alloc | apply Kd.S_drewN | apply Kd.S_drew)); exact HQ47.out⟩, ⟨by repeat (first | (with_reducible first | exact HB.out | apply below_alloc | apply pw_below_drewN | apply below_drew1 | refine below_set ?_ GB45.out) | exact HB.out)⟩⟩
                        ·rw [if_neg c44] at H
                         exact absurd H (by simp)
                       ·rw [if_neg c43] at H
                        exact absurd H (by simp)
                      ·rw [if_neg c41] at H
                       exact absurd H (by simp)
                     ·rw [if_neg c40] at H
                      exact absurd H (by simp)
                    ·rw [if_neg c38] at H
                     have c38b0 : decide (x48_3 < 2) = false := decide_eq_false c38
                     clear c38
                     have H' := Aside0.mk H
                     clear H
                     go_wp2
                     (try simp only [← hl4_2, ← hl4_3])
                     go_roundg k3
                     case measure => have := HK1.out; have := HK2.out; have := HK3.out; omega
                     case rel => exact ⟨(x4_3), (wrap64 (x27_2 + 1)), (by first | rfl | (simp; done) | (simp [*]; done)), H', ⟨by have := HK1.out; have := HK2.out; have := HK3.out; omega⟩, ⟨by (try simp only [hl4_1]); (try simp only [hl4_2]); (try simp only [hl4_3]); (with_reducible repeat (first | apply Kd.S_alloc | apply Kd.S_drewN | apply Kd.S_drew)); exact HO_4.out⟩, ⟨by repeat (first | (with_reducible first | exact HB.out | apply below_alloc | apply pw_below_drewN | apply below_drew1) | exact HB.out)⟩⟩
                 ·rw [if_neg c32] at H
                  exact absurd H (by simp)
                ·rw [if_neg c31] at H
                 exact absurd H (by simp)
               ·rw [if_neg c30] at H
                exact absurd H (by simp)
              ·rw [if_neg c27] at H
               exact absurd H (by simp)
             ·rw [if_neg c26] at H
              exact absurd H (by simp)
            ·rw [if_neg c25] at H
             exact absurd H (by simp)
           ·rw [if_neg c24] at H
            exact absurd H (by simp)
         ·rw [if_neg c21] at H
          have c21b0 : decide (x27_2 < a0) = false := decide_eq_false c21
          clear c21
          obtain rfl := Option.some.inj H
          go_wp2
          go_ret
          exact ⟨_, by first | rfl | (simp [errW_none, errW_some] <;> rfl) | (simp only [← hji5]; first | rfl | (simp [errW_none, errW_some] <;> rfl)) | (simp [*, errW_none, errW_some] <;> rfl), by (with_reducible repeat (first | apply Kd.S_alloc | apply Kd.S_drewN | apply Kd.S_drew)); exact HO_4.out, by repeat (first | (with_reducible first | exact HB.out | apply below_alloc | apply pw_below_drewN | apply below_drew1) | exact HB.out)⟩
   ·rw [if_neg c7] at H
    exact absurd H (by simp)
  ·rw [if_neg c6] at H
   exact absurd H (by simp)

end Go.Proofs.Ytcmigmldecacpaa.QEncodeSums
