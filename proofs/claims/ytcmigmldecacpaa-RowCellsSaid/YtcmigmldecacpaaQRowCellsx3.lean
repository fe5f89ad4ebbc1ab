/- Machine-made by a program of this claim: functions of the Go program as Lean functions, and that its calls do what these say. Lean checks it. -/
import Derived.Test.YtcmigmldecacpaaQRowCellsx0
import Derived.Test.YtcmigmldecacpaaQRowCellsx1
import Derived.Test.YtcmigmldecacpaaQRowCellsx2
import Derived.Test.YtcmigmldecacpaaGiv
import Derived.Test.YtcmigmldecacpaaGivFill
import Derived.Test.YtcmigmldecacpaaGivPicks
namespace Go.Proofs.Ytcmigmldecacpaa.QRowCells
open Go.RowKit Go.Proofs.YtcmigmldecacpaaW.PrintWords Go.Proofs.YtcmigmldecacpaaW.PrintLast Go.Proofs.YtcmigmldecacpaaW.PrintMore Go.Proofs.Ytcmigmldecacpaa.Giv
attribute [local go_sem] max2_int min2_int max_two min_two max_three min_three max_four min_four   -- for this text's walks alone
set_option linter.unusedVariables false
set_option linter.unusedSimpArgs false

/-! ### row_Of: function 74 -/
def row_Of.l0 : Nat → Int → List (List Int) → List Int → List (S70) → Int → Int → Option (List Int)
  | 0, _, _, _, _, _, _ => none
  | k + 1, x0, x6, x7, x20, x21, x22 => if x22 < x21 then (if 0 ≤ x22 then (if x22 < (x20.length : Int) then (if ((rd_T70 x20 x22).f0) < x0 then (if 0 ≤ ((rd_T70 x20 x22).f0) then (if ((rd_T70 x20 x22).f0) < (x7.length : Int) then (row_Of.l0 k x0 x6 (x7.set (((rd_T70 x20 x22).f0) : Int).toNat (Go.bits .xor .u8 (rd x7 ((rd_T70 x20 x22).f0)) ((rd_T70 x20 x22).f1))) x20 x21 (wrap64 (x22 + 1))) else (none)) else (none)) else (if 0 ≤ (wrap64 (((rd_T70 x20 x22).f0) - x0)) then (if (wrap64 (((rd_T70 x20 x22).f0) - x0)) < (x6.length : Int) then ((vector_Axpy.f x7 (rd_L3 x6 (wrap64 (((rd_T70 x20 x22).f0) - x0))) ((rd_T70 x20 x22).f1)).bind fun bt147 => (row_Of.l0 k x0 x6 bt147.1 x20 x21 (wrap64 (x22 + 1)))) else (none)) else (none))) else (none)) else (none)) else (some x7)
def row_Of.f (k : Nat) (a0 : Int) (a1 : Int) : Option (List Int) := (row_Picks.f a0 a1).bind fun t133 => (if (t133.length : Int) = 0 then (some ([] : List Int)) else ((precode_Rows.f k a0).bind fun t136 => (if 0 ≤ a0 then (if (a0 : Int).toNat ≤ 281474976710656 then (row_Of.l0 k a0 t136 (List.replicate (a0 : Int).toNat 0) t133 (t133.length : Int) 0) else (none)) else (none))))
theorem row_Of.mono_l : ∀ k, (∀ y0 y1 y2 y3 y4 y5, LeO (row_Of.l0 k y0 y1 y2 y3 y4 y5) (row_Of.l0 (k + 1) y0 y1 y2 y3 y4 y5))
  | 0 => fun _ _ _ _ _ _ r h => by simp [row_Of.l0] at h
  | k + 1 => by
    have ih0 := row_Of.mono_l k
    · intro y0 y1 y2 y3 y4 y5
      unfold row_Of.l0
      repeat' first
      | (with_reducible exact ih0 _ _ _ _ _ _)
      | (with_reducible exact precode_Rows.mono _ _)
      | (with_reducible exact LeO.refl _)
      | (with_reducible exact LeO.none _)
      | (with_reducible refine LeO.ite ?_ ?_)
      | (with_reducible refine LeO.bind ?_ (fun _ => ?_))
      | exact ih0 _ _ _ _ _ _
      | exact precode_Rows.mono _ _
      | exact LeO.none _
      | refine LeO.ite ?_ ?_
      | refine LeO.bind ?_ (fun _ => ?_)
theorem row_Of.mono : ∀ a0 a1 k, LeO (row_Of.f k a0 a1) (row_Of.f (k + 1) a0 a1) := by
  intro a0 a1 k
  have ih0 := row_Of.mono_l k
  unfold row_Of.f
  repeat' first
      | (with_reducible exact ih0 _ _ _ _ _ _)
      | (with_reducible exact precode_Rows.mono _ _)
      | (with_reducible exact LeO.refl _)
      | (with_reducible exact LeO.none _)
      | (with_reducible refine LeO.ite ?_ ?_)
      | (with_reducible refine LeO.bind ?_ (fun _ => ?_))
      | exact ih0 _ _ _ _ _ _
      | exact precode_Rows.mono _ _
      | exact LeO.none _
      | refine LeO.ite ?_ ?_
      | refine LeO.bind ?_ (fun _ => ?_)
def row_Of.T10 : Bool × List (List Nat × List Nat) := (true, [([], []), ([], []), ([1], [1]), ([0, 2], [0, 2]), ([3], [3]), ([], []), ([5], [5]), ([4, 6], [4, 6]), ([0, 2, 0, 1, 2, 3, 4, 5, 6, 7], [0, 2]), ([8, 7, 0, 1, 2, 3, 4, 5, 6, 7], [7, 8])])
def row_Of.B10 : List Nat := [0, 0, 2, 7, 15, 0, 32, 127, 255, 511]
theorem row_Of.tab10 : rtab .any (opsOf Try.f74 10) = row_Of.T10 := by kernel_rfl
theorem row_Of.bits10 : waitsOk row_Of.T10.2 row_Of.B10 = true := by kernel_rfl
def row_Of.T11 : Bool × List (List Nat × List Nat) := (true, [([], []), ([], []), ([], []), ([2], [2]), ([], []), ([3, 4], [3, 4]), ([1, 5], [1, 5]), ([6], [6]), ([], []), ([8], [8]), ([0, 7, 9], [0, 7, 9]), ([10], [10]), ([11], [11]), ([11], [11]), ([12, 10, 0, 1, 2, 3, 4, 5, 6, 7, 8, 9, 10, 11, 12], [0, 12])])
def row_Of.B11 : List Nat := [0, 0, 0, 4, 0, 28, 62, 126, 0, 256, 1023, 2047, 4095, 4095, 8191]
theorem row_Of.tab11 : rtab .any (opsOf Try.f74 11) = row_Of.T11 := by kernel_rfl
theorem row_Of.bits11 : waitsOk row_Of.T11.2 row_Of.B11 = true := by kernel_rfl
set_option maxHeartbeats 8000000 in
set_option maxRecDepth 100000 in
theorem row_Of.calls (k : Nat) (a0 : Int) (a1 : Int) (r : List Int) (w : World) (h : row_Of.f k a0 a1 = some r) :
    Calls Try.prog 74 #[.int .i64 a0, .int .u32 a1] w fun e w' => ∃ v0_ : Value, e = .returned (v0_) ∧ Kd.R (Kd.int .u8) 5 w' w.heap.size (fun _ => True) v0_ r ∧ Below w.heap.size w w' := by
  have hu70 := Try.underlying70
  have HB := Aside0.mk (Below.refl w.heap.size w)
  have H : ((row_Picks.f a0 a1).bind fun t133 => (if (t133.length : Int) = 0 then (some ([] : List Int)) else ((precode_Rows.f k a0).bind fun t136 => (if 0 ≤ a0 then (if (a0 : Int).toNat ≤ 281474976710656 then (row_Of.l0 k a0 t136 (List.replicate (a0 : Int).toNat 0) t133 (t133.length : Int) 0) else (none)) else (none))))) = some r := h
  clear h
  replace H := Option.bind_eq_some_iff.mp H
  obtain ⟨t133, A30, H⟩ := H
  replace H : (if (t133.length : Int) = 0 then (some ([] : List Int)) else ((precode_Rows.f k a0).bind fun t136 => (if 0 ≤ a0 then (if (a0 : Int).toNat ≤ 281474976710656 then (row_Of.l0 k a0 t136 (List.replicate (a0 : Int).toNat 0) t133 (t133.length : Int) 0) else (none)) else (none)))) = some r := H
  have A3 := Aside0.mk A30
  clear A30
  by_cases c4 : (t133.length : Int) = 0
  · rw [if_pos c4] at H
    have c4b0 : ((t133.length : Int) == 0) = true := beq_iff_eq.mpr c4
    have c4b1 : ((t133.length : Int) != 0) = false := bne_eq_false_iff_eq.mpr c4
    clear c4
    obtain rfl := Option.some.inj H
    go_enter Try.func74, Try.ntmps74
    go_wp2_with (first | ((with_reducible refine gate_callee (f := 89) rfl ?_); refine goesL_ (some 12) rfl rfl Try.func89 (by kernel_rfl) rfl #[.int .i64 a0, .int .u32 a1] rfl (by (try simp only [List.map_toArray, List.map_cons, List.map_nil]); first | done | rfl | (simp only [List.length_drop, List.length_take]; rfl)) ?_; (with_reducible refine (row_Picks.calls a0 a1 t133 _ A3.out).mono ?_); rintro e w5 ⟨v134, rfl, ho0, hb⟩; refine ⟨_, rfl, ?_⟩; have n0_ := Aside0.mk (Kd.R_lower ho0 (below_size (by repeat (first | (with_reducible first | exact HB.out | apply below_alloc | apply pw_below_drewN | apply below_drew1) | exact HB.out)))); have n1_ := Aside0.mk (below_step (by repeat (first | (with_reducible first | exact HB.out | apply below_alloc | apply pw_below_drewN | apply below_drew1) | exact HB.out)) hb); clear HB; have HO135 := n0_; have HB := n1_; clear n0_ n1_; (try clear hb); (try clear hb2); (try clear hk); (try clear hi); (try clear ho0); obtain ⟨Ao6, co6, eo6⟩ := Kd.R_slice HO135.out; subst eo6))
    go_ret
    exact ⟨_, by first | rfl | (simp [errW_none, errW_some] <;> rfl) | (simp [*, errW_none, errW_some] <;> rfl), by first | exact Kd.R_nil _ _ _ _ _ | exact Kd.N_nil _ _ _ _ _ | exact Kd.V_nil _ _ _ _ _ | exact Kd.Q_nil _ _ _ _ _ | exact Kd.S_nil _ _ _ _ _, by repeat (first | (with_reducible first | exact HB.out | apply below_alloc | apply pw_below_drewN | apply below_drew1) | exact HB.out)⟩
  · rw [if_neg c4] at H
    have c4b0 : ((t133.length : Int) == 0) = false := beq_eq_false_iff_ne.mpr c4
    have c4b1 : ((t133.length : Int) != 0) = true := bne_iff_ne.mpr c4
    have c4b2 : ¬ (t133 = []) := fun h_ => c4 (by rw [h_]; rfl)
    replace H := Option.bind_eq_some_iff.mp H
    obtain ⟨t136, A70, H⟩ := H
    replace H : (if 0 ≤ a0 then (if (a0 : Int).toNat ≤ 281474976710656 then (row_Of.l0 k a0 t136 (List.replicate (a0 : Int).toNat 0) t133 (t133.length : Int) 0) else (none)) else (none)) = some r := H
    have A7 := Aside0.mk A70
    clear A70
    by_cases c8 : 0 ≤ a0
    · rw [if_pos c8] at H
      have c8b0 := eq_true c8
      have c8b1 : decide (0 ≤ a0) = true := decide_eq_true c8
      clear c8
      by_cases c9 : (a0 : Int).toNat ≤ 281474976710656
      · rw [if_pos c9] at H
        have c9b0 := eq_true c9
        have c9b1 : decide ((a0 : Int).toNat ≤ 281474976710656) = true := decide_eq_true c9
        clear c9
        obtain ⟨y139, hy139⟩ : ∃ y_ : List Int, y_ = (List.replicate (a0 : Int).toNat 0) := ⟨_, rfl⟩
        replace H : (row_Of.l0 k a0 t136 y139 t133 (t133.length : Int) 0) = some r := by first | (rw [hy139]; with_reducible exact H) | (have H2_ := (Option.bind_some _ _).symm.trans H; rw [hy139]; with_reducible exact H2_) | (have H2_ := (Option.bind_some _ _).symm.trans H; with_reducible exact H2_) | with_reducible exact H | (rw [hy139]; exact H) | exact H
        have Ny139 := Aside0.mk hy139
        clear hy139
        have H' := Aside0.mk H
        clear H
        go_enter Try.func74, Try.ntmps74
        go_wp2_with (first | ((with_reducible refine gate_callee (f := 89) rfl ?_); refine goesL_ (some 12) rfl rfl Try.func89 (by kernel_rfl) rfl #[.int .i64 a0, .int .u32 a1] rfl (by (try simp only [List.map_toArray, List.map_cons, List.map_nil]); first | done | rfl | (simp only [List.length_drop, List.length_take]; rfl)) ?_; (with_reducible refine (row_Picks.calls a0 a1 t133 _ A3.out).mono ?_); rintro e w10 ⟨v134, rfl, ho0, hb⟩; refine ⟨_, rfl, ?_⟩; have n0_ := Aside0.mk (Kd.R_lower ho0 (below_size (by repeat (first | (with_reducible first | exact HB.out | apply below_alloc | apply pw_below_drewN | apply below_drew1) | exact HB.out)))); have n1_ := Aside0.mk (below_step (by repeat (first | (with_reducible first | exact HB.out | apply below_alloc | apply pw_below_drewN | apply below_drew1) | exact HB.out)) hb); clear HB; have HO135 := n0_; have HB := n1_; clear n0_ n1_; (try clear hb); (try clear hb2); (try clear hk); (try clear hi); (try clear ho0); obtain ⟨Ao11, co11, eo11⟩ := Kd.R_slice HO135.out; subst eo11) | ((with_reducible refine gate_callee (f := 63) rfl ?_); refine goesL_ (some 17) rfl rfl Try.func63 (by kernel_rfl) rfl #[.int .i64 a0] rfl (by (try simp only [List.map_toArray, List.map_cons, List.map_nil]); first | done | rfl | (simp only [List.length_drop, List.length_take]; rfl)) ?_; (with_reducible refine (precode_Rows.calls k a0 t136 _ A7.out).mono ?_); rintro e w12 ⟨v137, rfl, ho0, hb⟩; refine ⟨_, rfl, ?_⟩; have n0_ := Aside0.mk (Kd.R_below (by (with_reducible repeat (first | apply Kd.R_alloc | apply Kd.R_drewN | apply Kd.R_drew)); exact HO135.out) hb); have n1_ := Aside0.mk (Kd.S_lower ho0 (below_size (by repeat (first | (with_reducible first | exact HB.out | apply below_alloc | apply pw_below_drewN | apply below_drew1) | exact HB.out)))); have n2_ := Aside0.mk (below_step (by repeat (first | (with_reducible first | exact HB.out | apply below_alloc | apply pw_below_drewN | apply below_drew1) | exact HB.out)) hb); clear HO135; clear HB; have HO135 := n0_; have HO138 := n1_; have HB := n2_; clear n0_ n1_ n2_; (try clear hb); (try clear hb2); (try clear hk); (try clear hi); (try clear ho0)) | ((with_reducible refine gate_dst (N := 19) rfl ?_); refine Kd.R_make (Kd.int .u8) _ 5 rfl (N := 19) rfl 31 _ _ rfl a0 rfl rfl Try.underlying31 (.int .u8 0) 1 info5 rfl (by decide) (by omega) 0 (ok := fun _ => True) (okp := fun _ => True) rfl (fun _ hk => hk) trivial (of_decide_eq_true (by first | (with_reducible assumption) | assumption)) (Nat.le_trans (Nat.mul_le_mul_right _ (of_decide_eq_true (by first | (with_reducible assumption) | assumption) : a0.toNat ≤ 281474976710656)) (by omega)) (Below.refl _ _) (Nat.le_refl _) ?_; intro v140 w13 ho14 hb hg_ hnew_; clear hg_ hnew_; (first | rw [← Ny139.out] at ho14 | (simp only [Int.reduceToNat] at ho14; rw [← Ny139.out] at ho14)); have n0_ := Aside0.mk (Kd.R_below (by (with_reducible repeat (first | apply Kd.R_alloc | apply Kd.R_drewN | apply Kd.R_drew)); exact HO135.out) hb); have n1_ := Aside0.mk (Kd.S_elder' (by (with_reducible repeat (first | apply Kd.S_alloc | apply Kd.S_drewN | apply Kd.S_drew)); exact HO138.out) (Kd.R_base ho14) hb); have n2_ := Aside0.mk (Kd.R_lower ho14 (below_size (by repeat (first | (with_reducible first | exact HB.out | apply below_alloc | apply pw_below_drewN | apply below_drew1) | exact HB.out)))); have n3_ := Aside0.mk (below_step (by repeat (first | (with_reducible first | exact HB.out | apply below_alloc | apply pw_below_drewN | apply below_drew1) | exact HB.out)) hb); clear HO135; clear HO138; clear HB; have HO135 := n0_; have HO138 := n1_; have HO141 := n2_; have HB := n3_; clear n0_ n1_ n2_ n3_; clear hb ho14))
        go_loopg [7, 22] k (fun kq v7 v22 w' => ∃ (x7_1 : List Int) (x22_1 : Int), v22 = .int .i64 x22_1 ∧ Aside0 (row_Of.l0 kq a0 t136 x7_1 t133 (t133.length : Int) x22_1 = some r) ∧ Aside0 (kq ≤ k) ∧ Aside0 (Kd.S (Kd.slice 5 (Kd.int .u8)) 31 w' w.heap.size (fun k_ => some k_ ≠ (v7 : Value).ownBlock) v137 t136) ∧ Aside0 (Kd.R (Kd.int .u8) 5 w' w.heap.size (fun _ => True) v7 x7_1) ∧ Aside0 (Kd.R k70 70 w' w.heap.size (fun _ => True) (.slice Ao11 t133.length co11) t133) ∧ Aside0 (Below w.heap.size w w'))
        case atStart => exact ⟨(y139), (0), (by first | rfl | (simp; done) | (simp [*]; done)), H', ⟨Nat.le_refl _⟩, ⟨by (with_reducible repeat (first | apply Kd.S_alloc | apply Kd.S_drewN | apply Kd.S_drew)); exact Kd.S_mono HO138.out (fun _ hk => by first | exact hk.2 | exact hk.1 | exact hk.1.1 | exact hk.1.2 | exact hk.2.1 | exact hk.2.2)⟩, ⟨by (with_reducible repeat (first | apply Kd.R_alloc | apply Kd.R_drewN | apply Kd.R_drew)); exact HO141.out⟩, ⟨by (with_reducible repeat (first | apply Kd.R_alloc | apply Kd.R_drewN | apply Kd.R_drew)); exact HO135.out⟩, ⟨by repeat (first | (with_reducible first | exact HB.out | apply below_alloc | apply pw_below_drewN | apply below_drew1) | exact HB.out)⟩⟩
        case round =>
          clear H'
          try clear p2
          try clear c4
          try clear c4b0
          try clear c4b1
          try clear c4b2
          try clear c6
          try clear c7
          try clear c8
          try clear c8b0
          try clear c8b1
          try clear c9
          try clear c9b0
          try clear c9b1
          obtain ⟨x7_1, x22_1, rfl, HA, HK1, HO_6, HO_7, HO_20, HB⟩ := hrel
          cases gk with
          | zero => exact absurd HA.out (by simp [row_Of.l0])
          | succ k1 =>
            have H := HA.out
            clear HA
            simp only [row_Of.l0] at H
            by_cases c15 : x22_1 < (t133.length : Int)
            · rw [if_pos c15] at H
              have c15b0 : decide (x22_1 < (t133.length : Int)) = true := decide_eq_true c15
              clear c15
              by_cases c16 : 0 ≤ x22_1
              · rw [if_pos c16] at H
                have c16b0 : decide (0 ≤ x22_1) = true := decide_eq_true c16
                clear c16
                by_cases c17 : x22_1 < (t133.length : Int)
                · rw [if_pos c17] at H
                  have c17b0 : decide (x22_1 < (t133.length : Int)) = true := decide_eq_true c17
                  clear c17
                  by_cases c18 : ((rd_T70 t133 x22_1).f0) < a0
                  · rw [if_pos c18] at H
                    have c18b0 : decide (((rd_T70 t133 x22_1).f0) < a0) = true := decide_eq_true c18
                    clear c18
                    by_cases c19 : 0 ≤ ((rd_T70 t133 x22_1).f0)
                    · rw [if_pos c19] at H
                      have c19b0 : decide (0 ≤ ((rd_T70 t133 x22_1).f0)) = true := decide_eq_true c19
                      clear c19
                      by_cases c20 : ((rd_T70 t133 x22_1).f0) < (x7_1.length : Int)
                      · rw [if_pos c20] at H
                        have c20b0 : decide (((rd_T70 t133 x22_1).f0) < (x7_1.length : Int)) = true := decide_eq_true c20
                        clear c20
                        obtain ⟨y145, hy145⟩ : ∃ y_ : List Int, y_ = (x7_1.set (((rd_T70 t133 x22_1).f0) : Int).toNat (Go.bits .xor .u8 (rd x7_1 ((rd_T70 t133 x22_1).f0)) ((rd_T70 t133 x22_1).f1))) := ⟨_, rfl⟩
                        replace H : (row_Of.l0 k1 a0 t136 y145 t133 (t133.length : Int) (wrap64 (x22_1 + 1))) = some r := by first | (rw [hy145]; with_reducible exact H) | (have H2_ := (Option.bind_some _ _).symm.trans H; rw [hy145]; with_reducible exact H2_) | (have H2_ := (Option.bind_some _ _).symm.trans H; with_reducible exact H2_) | with_reducible exact H | (rw [hy145]; exact H) | exact H
                        have Ny145 := Aside0.mk hy145
                        clear hy145
                        have H' := Aside0.mk H
                        clear H
                        have p142 : 0 ≤ (x22_1 : Int) := of_decide_eq_true (by first | (with_reducible assumption) | assumption)
                        have q142 : x22_1 < (t133.length : Int) := of_decide_eq_true (by first | (with_reducible assumption) | assumption)
                        obtain ⟨ad142, e142, hx142_0, hx142_1⟩ := at_T70 (Kd.R_reads' HO_20.out).2.2 x22_1 p142 q142
                        cases e142
                        replace p142 := eq_true p142
                        replace q142 := eq_true q142
                        try go_wp2_with (first | ((with_reducible refine gate_dst (N := 9) rfl ?_); refine box_event ?hg (N := 9) ?hd (cs := #[.int .i64 0, .int .u8 0]) (t := 70) ?hr ?_; (case hd => rfl); (case hg => rfl); (case hr => first | (go_simp; done) | (go_simp; rfl)); intro gb143 hg w22 hbox hb; have n0_ := Aside0.mk (Kd.S_below (by (with_reducible repeat (first | apply Kd.S_alloc | apply Kd.S_drewN | apply Kd.S_drew)); exact HO_6.out) hb); have n1_ := Aside0.mk (Kd.R_below (by (with_reducible repeat (first | apply Kd.R_alloc | apply Kd.R_drewN | apply Kd.R_drew)); exact HO_7.out) hb); have n2_ := Aside0.mk (Kd.R_below (Kd.R_elderB (by (with_reducible repeat (first | apply Kd.R_alloc | apply Kd.R_drewN | apply Kd.R_drew)); exact HO_20.out) gb143 (Nat.le_of_eq hg.symm)) hb); have n3_ := Aside0.mk (below_step (by repeat (first | (with_reducible first | exact HB.out | apply below_alloc | apply pw_below_drewN | apply below_drew1) | exact HB.out)) hb); have n4_ := Aside0.mk (hbox); have n5_ := Aside0.mk ((by rw [hg]; exact (below_size (by repeat (first | (with_reducible first | exact HB.out | apply below_alloc | apply pw_below_drewN | apply below_drew1) | exact HB.out))) : w.heap.size ≤ gb143)); have n6_ := Aside0.mk ((by rw [hg]; exact (below_size (by repeat (first | (with_reducible first | exact HB.out | apply below_alloc | apply pw_below_drewN | apply below_drew1) | exact HB.out))) : w.heap.size ≤ gb143)); clear HO_6; clear HO_7; clear HO_20; clear HB; have HO_6 := n0_; have HO_7 := n1_; have HO_20 := n2_; have HB := n3_; have BK143 := n4_; have GW143 := n5_; have GE143 := n6_; clear n0_ n1_ n2_ n3_ n4_ n5_ n6_; clear hb hbox hg; have hcz23_0 : w22.cell? ⟨gb143, 0, none⟩ = some (.int .i64 0) := (blk_cell BK143.out 0).trans rfl; have hcz23_1 : w22.cell? ⟨gb143, 1, none⟩ = some (.int .u8 0) := (blk_cell BK143.out 1).trans rfl; have hfz23_0 := blk_frozen BK143.out 0; have hfz23_1 := blk_frozen BK143.out 1))
                        have n0_ : Aside0 (Kd.S (Kd.slice 5 (Kd.int .u8)) 31 ((w22.setCell ⟨gb143, 0, none⟩ (.int .i64 ((rd_T70 t133 x22_1).f0))).setCell ⟨gb143, 1, none⟩ (.int .u8 ((rd_T70 t133 x22_1).f1))) w.heap.size (fun k_ => some k_ ≠ (u7 : Value).ownBlock) v137 t136) := ⟨by (with_reducible repeat (first | apply Kd.S_alloc | apply Kd.S_drewN | apply Kd.S_drew)); exact Kd.S_mono (Kd.S_far (p := ⟨gb143, 1, none⟩) (Kd.S_far (p := ⟨gb143, 0, none⟩) (Kd.S_types HO_6.out BK143.out (by decide)) (fun _ hk => hk.2) (.int .i64 ((rd_T70 t133 x22_1).f0))) (fun _ hk => hk.2) (.int .u8 ((rd_T70 t133 x22_1).f1))) (fun _ hk => hk.1)⟩
                        have n1_ : Aside0 (Kd.R (Kd.int .u8) 5 ((w22.setCell ⟨gb143, 0, none⟩ (.int .i64 ((rd_T70 t133 x22_1).f0))).setCell ⟨gb143, 1, none⟩ (.int .u8 ((rd_T70 t133 x22_1).f1))) w.heap.size (fun _ => True) u7 x7_1) := ⟨by (with_reducible repeat (first | apply Kd.R_alloc | apply Kd.R_drewN | apply Kd.R_drew)); exact Kd.R_mono (Kd.R_far (p := ⟨gb143, 1, none⟩) (Kd.R_far (p := ⟨gb143, 0, none⟩) (Kd.R_types HO_7.out BK143.out (by decide)) (fun _ hk => hk.2) (.int .i64 ((rd_T70 t133 x22_1).f0))) (fun _ hk => hk.2) (.int .u8 ((rd_T70 t133 x22_1).f1))) (fun _ hk => trivial)⟩
                        have n2_ : Aside0 (Kd.R k70 70 ((w22.setCell ⟨gb143, 0, none⟩ (.int .i64 ((rd_T70 t133 x22_1).f0))).setCell ⟨gb143, 1, none⟩ (.int .u8 ((rd_T70 t133 x22_1).f1))) w.heap.size (fun k_ => k_ ≠ gb143) (.slice (some ad142) t133.length co11) t133) := ⟨by (with_reducible repeat (first | apply Kd.R_alloc | apply Kd.R_drewN | apply Kd.R_drew)); exact Kd.R_mono (Kd.R_far (p := ⟨gb143, 1, none⟩) (Kd.R_far (p := ⟨gb143, 0, none⟩) (Kd.R_mono HO_20.out (fun k_ hk => (⟨hk, hk.2⟩ : _ ∧ k_ ≠ gb143))) (fun _ hk => hk.2) (.int .i64 ((rd_T70 t133 x22_1).f0))) (fun _ hk => hk.2) (.int .u8 ((rd_T70 t133 x22_1).f1))) (fun _ hk => hk.1.2)⟩
                        have n3_ : Aside0 (((w22.setCell ⟨gb143, 0, none⟩ (.int .i64 ((rd_T70 t133 x22_1).f0))).setCell ⟨gb143, 1, none⟩ (.int .u8 ((rd_T70 t133 x22_1).f1))).heap[gb143]? = some (.cells #[.int .i64 ((rd_T70 t133 x22_1).f0), .int .u8 ((rd_T70 t133 x22_1).f1)] 70 (0, 0))) := ⟨by (with_reducible repeat (first | refine blk_drewN ?_ _ | refine blk_drew ?_ | refine blk_alloc ?_ _)); refine blk_put (cs := #[.int .i64 ((rd_T70 t133 x22_1).f0), .int .u8 0]) ?_ 1 _ rfl; (with_reducible repeat (first | refine blk_drewN ?_ _ | refine blk_drew ?_ | refine blk_alloc ?_ _)); refine blk_put (cs := #[.int .i64 0, .int .u8 0]) ?_ 0 _ rfl; (with_reducible repeat (first | refine blk_drewN ?_ _ | refine blk_drew ?_ | refine blk_alloc ?_ _)); exact BK143.out⟩
                        have n4_ : Aside0 (Below w.heap.size w ((w22.setCell ⟨gb143, 0, none⟩ (.int .i64 ((rd_T70 t133 x22_1).f0))).setCell ⟨gb143, 1, none⟩ (.int .u8 ((rd_T70 t133 x22_1).f1)))) := ⟨by repeat (first | (with_reducible first | exact HB.out | apply below_alloc | apply pw_below_drewN | apply below_drew1 | refine below_set ?_ GE143.out) | exact HB.out)⟩
                        (try clear HO_6)
                        (try clear HO_7)
                        (try clear HO_20)
                        (try clear BK143)
                        (try clear HB)
                        generalize ((w22.setCell ⟨gb143, 0, none⟩ (.int .i64 ((rd_T70 t133 x22_1).f0))).setCell ⟨gb143, 1, none⟩ (.int .u8 ((rd_T70 t133 x22_1).f1))) = w24 at n0_ n1_ n2_ n3_ n4_ ⊢
                        have HO_6 := n0_
                        have HO_7 := n1_
                        have HO_20 := n2_
                        have BK143 := n3_
                        have HB := n4_
                        clear n0_ n1_ n2_ n3_ n4_
                        have n0_ := Aside0.mk (Kd.S_drew HO_6.out)
                        have n1_ := Aside0.mk (Kd.R_drew HO_7.out)
                        have n2_ := Aside0.mk (Kd.R_drew HO_20.out)
                        have n3_ := Aside0.mk (blk_drew BK143.out)
                        have n4_ := Aside0.mk (below_drew1 HB.out)
                        clear HO_6
                        clear HO_7
                        clear HO_20
                        clear BK143
                        clear HB
                        have HO_6 := n0_
                        have HO_7 := n1_
                        have HO_20 := n2_
                        have BK143 := n3_
                        have HB := n4_
                        clear n0_ n1_ n2_ n3_ n4_
                        obtain ⟨Ao26, co26, eo26⟩ := Kd.R_slice HO_7.out
                        (first | subst eo26 | (injection eo26 with f1_ f2_ f3_; have f4_ := f1_.symm; have f5_ := f3_.symm; clear f1_ f2_ f3_; subst f4_; subst f5_))
                        have p144 : 0 ≤ (((rd_T70 t133 x22_1).f0) : Int) := of_decide_eq_true (by first | (with_reducible assumption) | assumption)
                        have q144 : ((rd_T70 t133 x22_1).f0) < (x7_1.length : Int) := of_decide_eq_true (by first | (with_reducible assumption) | assumption)
                        obtain ⟨ad144, e144, hx144_0⟩ := Kd.at_int (Kd.R_reads' HO_7.out).2.2 ((rd_T70 t133 x22_1).f0) p144 q144
                        cases e144
                        replace p144 := eq_true p144
                        replace q144 := eq_true q144
                        have p21 : 0 ≤ (((rd_T70 t133 x22_1).f0) : Int) := of_decide_eq_true (by first | (with_reducible assumption) | assumption)
                        have q21 : (((rd_T70 t133 x22_1).f0) : Int) < ((x7_1.length : Int) : Int) := of_decide_eq_true (by first | (with_reducible assumption) | assumption)
                        obtain ⟨go21, co21, eo21, gb21, gl21, cl21, HG21⟩ := Kd.R_form HO_7.out (by omega)
                        (first | cases eo21 | (injection eo21 with ea_ en_ ec_; (first | subst ea_ | (injection ea_ with ea_; subst ea_)); subst ec_; clear en_))
                        have GB21 := Aside0.mk gb21
                        have GG21 := Aside0.mk HG21
                        clear gb21 gl21 HG21
                        (first | simp only [add_plain] at hx144_0 | skip)
                        obtain ⟨hx21_0, hf21_0⟩ := Kd.R_celln 0 HO_7.out (((rd_T70 t133 x22_1).f0) : Int) p21 q21
                        replace p21 := eq_true p21
                        replace q21 := eq_true q21
                        have HP27 := Kd.R_putn HO_7.out (((rd_T70 t133 x22_1).f0) : Int) (Go.bits .xor .u8 (rd x7_1 ((rd_T70 t133 x22_1).f0)) ((rd_T70 t133 x22_1).f1))
                        rw [← Ny145.out] at HP27
                        have HQ27 := Aside0.mk HP27
                        clear HP27
                        refine start_ (n := 10) (S := fun w' => w'.cell? ⟨gb143, 0, none⟩ = some (.int .i64 ((rd_T70 t133 x22_1).f0)) ∧ w'.cell? ⟨gb143, 1, none⟩ = some (.int .u8 ((rd_T70 t133 x22_1).f1)) ∧ w'.cell? ⟨go21, (((rd_T70 t133 x22_1).f0)).toNat, none⟩ = some (.int .u8 (rd x7_1 ((rd_T70 t133 x22_1).f0)))) (ds := [9]) #[false, false, false, false, false, false, false, false, false, false] (by kernel_rfl) rfl rfl ⟨(blk_cell BK143.out 0).trans rfl, (blk_cell BK143.out 1).trans rfl, hx144_0⟩ (fun hHeld => ?_); refine with_tabW row_Of.tab10 row_Of.bits10 (fun HT_ HW_ => ?_)
                        generalize w24.drew = w25 at HO_6 HO_7 HO_20 BK143 HB GG21 HQ27 hf21_0 hx144_0 hx21_0 hHeld ⊢
                        refine pure_ (i := 0) (N := some 30) (v := ?_) (a' := ?_) #[true, false, false, false, false, false, false, false, false, false] rfl rfl (any_of HT_.out (by kernel_rfl)) (fun _ _ _ h => h) (Or.inl ⟨by rfl, ?_⟩) ?_ ?_
                        rotate_left
                        · intro w'
                          go_simp
                          with_reducible rfl
                        rotate_left
                        · simp only [Act.put, List.setIfInBounds_toArray, List.set_cons_zero, List.set_cons_succ, i64_w, i32_w]
                          rfl
                        refine pure_ (i := 1) (N := some 31) (v := ?_) (a' := ?_) #[true, true, false, false, false, false, false, false, false, false] rfl rfl (any_of HT_.out (by kernel_rfl)) (fun _ _ _ h => h) (Or.inl ⟨by rfl, ?_⟩) ?_ ?_
                        rotate_left
                        · intro w'
                          go_simp
                          with_reducible rfl
                        rotate_left
                        · simp only [Act.put, List.setIfInBounds_toArray, List.set_cons_zero, List.set_cons_succ, i64_w, i32_w]
                          rfl
                        refine pure_ (i := 5) (N := some 35) (v := ?_) (a' := ?_) #[true, true, false, false, false, true, false, false, false, false] rfl rfl (any_of HT_.out (by kernel_rfl)) (fun _ _ _ h => h) (Or.inl ⟨by rfl, ?_⟩) ?_ ?_
                        rotate_left
                        · intro w'
                          go_simp
                          with_reducible rfl
                        rotate_left
                        · simp only [Act.put, List.setIfInBounds_toArray, List.set_cons_zero, List.set_cons_succ, i64_w, i32_w]
                          rfl
                        refine take_ (i := 2) (N := some 32) (v := ?_) (a' := ?_) #[true, true, true, false, false, true, false, false, false, false] rfl rfl (take_ofW HT_.out HW_.out (by kernel_rfl)) (fun _ _ _ h => h) (Or.inl ⟨by rfl, ?_⟩) hHeld ?_ ?_
                        rotate_left
                        · rintro w' ⟨s0, s1, s2⟩
                          go_simp
                          with_reducible rfl
                        rotate_left
                        · simp only [Act.put, List.setIfInBounds_toArray, List.set_cons_zero, List.set_cons_succ, i64_w, i32_w]
                          rfl
                        refine pure_ (i := 3) (N := some 33) (v := ?_) (a' := ?_) #[true, true, true, true, false, true, false, false, false, false] rfl rfl (any_of HT_.out (by kernel_rfl)) (fun _ _ _ h => h) (Or.inl ⟨by rfl, ?_⟩) ?_ ?_
                        rotate_left
                        · intro w'
                          go_simp
                          with_reducible rfl
                        rotate_left
                        · simp only [Act.put, List.setIfInBounds_toArray, List.set_cons_zero, List.set_cons_succ, i64_w, i32_w]
                          rfl
                        refine take_ (i := 4) (N := some 34) (v := ?_) (a' := ?_) #[true, true, true, true, true, true, false, false, false, false] rfl rfl (take_ofW HT_.out HW_.out (by kernel_rfl)) (fun _ _ _ h => h) (Or.inl ⟨by rfl, ?_⟩) hHeld ?_ ?_
                        rotate_left
                        · rintro w' ⟨s0, s1, s2⟩
                          go_simp
                          with_reducible rfl
                        rotate_left
                        · simp only [Act.put, List.setIfInBounds_toArray, List.set_cons_zero, List.set_cons_succ, i64_w, i32_w]
                          rfl
                        refine take_ (i := 6) (N := some 36) (v := ?_) (a' := ?_) #[true, true, true, true, true, true, true, false, false, false] rfl rfl (take_ofW HT_.out HW_.out (by kernel_rfl)) (fun _ _ _ h => h) (Or.inl ⟨by rfl, ?_⟩) hHeld ?_ ?_
                        rotate_left
                        · rintro w' ⟨s0, s1, s2⟩
                          go_simp
                          with_reducible rfl
                        rotate_left
                        · simp only [Act.put, List.setIfInBounds_toArray, List.set_cons_zero, List.set_cons_succ, i64_w, i32_w]
                          rfl
                        refine pure_ (i := 7) (N := some 37) (v := ?_) (a' := ?_) #[true, true, true, true, true, true, true, true, false, false] rfl rfl (any_of HT_.out (by kernel_rfl)) (fun _ _ _ h => h) (Or.inl ⟨by rfl, ?_⟩) ?_ ?_
                        rotate_left
                        · intro w'
                          go_simp
                          with_reducible rfl
                        rotate_left
                        · simp only [Act.put, List.setIfInBounds_toArray, List.set_cons_zero, List.set_cons_succ, i64_w, i32_w]
                          rfl
                        refine pure_ (i := 8) (N := some 38) (v := ?_) (a' := ?_) #[true, true, true, true, true, true, true, true, true, false] rfl rfl (any_of HT_.out (by kernel_rfl)) (fun _ _ _ h => h) (Or.inl ⟨by rfl, ?_⟩) ?_ ?_
                        rotate_left
                        · intro w'
                          go_simp
                          with_reducible rfl
                        rotate_left
                        · simp only [Act.put, List.setIfInBounds_toArray, List.set_cons_zero, List.set_cons_succ, i64_w, i32_w]
                          rfl
                        refine last_ (i := 9) (N := none) #[true, true, true, true, true, true, true, true, true, true] rfl rfl (one_of HT_.out (by kernel_rfl)) (by decide) (fun K hK => ?_)
                        refine skip_ (w1 := ?_) (by rfl) rfl ?_ ?_
                        rotate_left
                        · go_simp
                          rfl
                        refine hK.out _ _ ?_
                        clear hK K
                        refine done_ (done_of HT_.out (by kernel_rfl)) ?_
                        try go_wp2
                        go_roundg k1
                        case measure => have := HK1.out; omega
                        case rel => exact ⟨(y145), (wrap64 (x22_1 + 1)), (by first | rfl | (simp; done) | (simp [*]; done)), H', ⟨by have := HK1.out; omega⟩, ⟨by (with_reducible repeat (first | apply Kd.S_alloc | apply Kd.S_drewN | apply Kd.S_drew)); exact Kd.S_mono (Kd.S_far (p := ⟨go21, (((rd_T70 t133 x22_1).f0) : Int).toNat, none⟩) (Kd.S_mono HO_6.out (fun k_ hk => (⟨hk, fun e_ => hk (by rw [e_]; rfl)⟩ : _ ∧ k_ ≠ go21))) (fun _ hk => hk.2) (.int .u8 (Go.bits .xor .u8 (rd x7_1 ((rd_T70 t133 x22_1).f0)) ((rd_T70 t133 x22_1).f1)))) (fun _ hk => hk.1)⟩, ⟨by (with_reducible repeat (first | apply Kd.R_alloc | apply Kd.R_drewN | apply Kd.R_drew)); exact HQ27.out⟩, ⟨by (with_reducible repeat (first | apply Kd.R_alloc | apply Kd.R_drewN | apply Kd.R_drew)); exact Kd.R_mono (Kd.R_far (p := ⟨go21, (((rd_T70 t133 x22_1).f0) : Int).toNat, none⟩) (Kd.R_types HO_20.out GG21.out (by decide)) (fun _ hk => hk.2) (.int .u8 (Go.bits .xor .u8 (rd x7_1 ((rd_T70 t133 x22_1).f0)) ((rd_T70 t133 x22_1).f1)))) (fun _ hk => trivial)⟩, ⟨by repeat (first | (with_reducible first | exact HB.out | apply below_alloc | apply pw_below_drewN | apply below_drew1 | refine below_set ?_ GB21.out | refine below_set ?_ GE143.out) | exact HB.out)⟩⟩
                      · rw [if_neg c20] at H
                        exact absurd H (by simp)
                    · rw [if_neg c19] at H
                      exact absurd H (by simp)
                  · rw [if_neg c18] at H
                    have c18b0 : decide (((rd_T70 t133 x22_1).f0) < a0) = false := decide_eq_false c18
                    clear c18
                    obtain ⟨ji28, hji28⟩ : ∃ j_ : Int, (wrap64 (((rd_T70 t133 x22_1).f0) - a0)) = j_ := ⟨_, rfl⟩
                    replace H : (if 0 ≤ (ji28) then (if (ji28) < (t136.length : Int) then ((vector_Axpy.f x7_1 (rd_L3 t136 (ji28)) ((rd_T70 t133 x22_1).f1)).bind fun bt147 => (row_Of.l0 k1 a0 t136 bt147.1 t133 (t133.length : Int) (wrap64 (x22_1 + 1)))) else (none)) else (none)) = some r := by first | (rw [hji28] at H; exact H) | (simp only [hji28] at H ⊢; exact H)
                    have hji28w : (IntKind.i64.wrap (((rd_T70 t133 x22_1).f0) - a0)) = ji28 := (i64_w _).trans hji28
                    by_cases c29 : 0 ≤ (ji28)
                    · rw [if_pos c29] at H
                      have c29b0 : decide (0 ≤ (ji28)) = true := decide_eq_true c29
                      clear c29
                      by_cases c30 : (ji28) < (t136.length : Int)
                      · rw [if_pos c30] at H
                        have c30b0 : decide ((ji28) < (t136.length : Int)) = true := decide_eq_true c30
                        clear c30
                        replace H := Option.bind_eq_some_iff.mp H
                        obtain ⟨⟨t147, t148⟩, A310, H⟩ := H
                        replace H : (row_Of.l0 k1 a0 t136 t147 t133 (t133.length : Int) (wrap64 (x22_1 + 1))) = some r := H
                        have A31 := Aside0.mk A310
                        clear A310
                        have H' := Aside0.mk H
                        clear H
                        have p142 : 0 ≤ (x22_1 : Int) := of_decide_eq_true (by first | (with_reducible assumption) | assumption)
                        have q142 : x22_1 < (t133.length : Int) := of_decide_eq_true (by first | (with_reducible assumption) | assumption)
                        obtain ⟨ad142, e142, hx142_0, hx142_1⟩ := at_T70 (Kd.R_reads' HO_20.out).2.2 x22_1 p142 q142
                        cases e142
                        replace p142 := eq_true p142
                        replace q142 := eq_true q142
                        try go_wp2_with (first | ((with_reducible refine gate_dst (N := 9) rfl ?_); refine box_event ?hg (N := 9) ?hd (cs := #[.int .i64 0, .int .u8 0]) (t := 70) ?hr ?_; (case hd => rfl); (case hg => rfl); (case hr => first | (go_simp; done) | (go_simp; rfl)); intro gb143 hg w32 hbox hb; have n0_ := Aside0.mk (Kd.S_below (by (with_reducible repeat (first | apply Kd.S_alloc | apply Kd.S_drewN | apply Kd.S_drew)); exact HO_6.out) hb); have n1_ := Aside0.mk (Kd.R_below (by (with_reducible repeat (first | apply Kd.R_alloc | apply Kd.R_drewN | apply Kd.R_drew)); exact HO_7.out) hb); have n2_ := Aside0.mk (Kd.R_below (Kd.R_elderB (by (with_reducible repeat (first | apply Kd.R_alloc | apply Kd.R_drewN | apply Kd.R_drew)); exact HO_20.out) gb143 (Nat.le_of_eq hg.symm)) hb); have n3_ := Aside0.mk (below_step (by repeat (first | (with_reducible first | exact HB.out | apply below_alloc | apply pw_below_drewN | apply below_drew1) | exact HB.out)) hb); have n4_ := Aside0.mk (hbox); have n5_ := Aside0.mk ((by rw [hg]; exact (below_size (by repeat (first | (with_reducible first | exact HB.out | apply below_alloc | apply pw_below_drewN | apply below_drew1) | exact HB.out))) : w.heap.size ≤ gb143)); have n6_ := Aside0.mk ((by rw [hg]; exact (below_size (by repeat (first | (with_reducible first | exact HB.out | apply below_alloc | apply pw_below_drewN | apply below_drew1) | exact HB.out))) : w.heap.size ≤ gb143)); clear HO_6; clear HO_7; clear HO_20; clear HB; have HO_6 := n0_; have HO_7 := n1_; have HO_20 := n2_; have HB := n3_; have BK143 := n4_; have GW143 := n5_; have GE143 := n6_; clear n0_ n1_ n2_ n3_ n4_ n5_ n6_; clear hb hbox hg; have hcz33_0 : w32.cell? ⟨gb143, 0, none⟩ = some (.int .i64 0) := (blk_cell BK143.out 0).trans rfl; have hcz33_1 : w32.cell? ⟨gb143, 1, none⟩ = some (.int .u8 0) := (blk_cell BK143.out 1).trans rfl; have hfz33_0 := blk_frozen BK143.out 0; have hfz33_1 := blk_frozen BK143.out 1))
                        have n0_ : Aside0 (Kd.S (Kd.slice 5 (Kd.int .u8)) 31 ((w32.setCell ⟨gb143, 0, none⟩ (.int .i64 ((rd_T70 t133 x22_1).f0))).setCell ⟨gb143, 1, none⟩ (.int .u8 ((rd_T70 t133 x22_1).f1))) w.heap.size (fun k_ => some k_ ≠ (u7 : Value).ownBlock) v137 t136) := ⟨by (with_reducible repeat (first | apply Kd.S_alloc | apply Kd.S_drewN | apply Kd.S_drew)); exact Kd.S_mono (Kd.S_far (p := ⟨gb143, 1, none⟩) (Kd.S_far (p := ⟨gb143, 0, none⟩) (Kd.S_types HO_6.out BK143.out (by decide)) (fun _ hk => hk.2) (.int .i64 ((rd_T70 t133 x22_1).f0))) (fun _ hk => hk.2) (.int .u8 ((rd_T70 t133 x22_1).f1))) (fun _ hk => hk.1)⟩
                        have n1_ : Aside0 (Kd.R (Kd.int .u8) 5 ((w32.setCell ⟨gb143, 0, none⟩ (.int .i64 ((rd_T70 t133 x22_1).f0))).setCell ⟨gb143, 1, none⟩ (.int .u8 ((rd_T70 t133 x22_1).f1))) w.heap.size (fun _ => True) u7 x7_1) := ⟨by (with_reducible repeat (first | apply Kd.R_alloc | apply Kd.R_drewN | apply Kd.R_drew)); exact Kd.R_mono (Kd.R_far (p := ⟨gb143, 1, none⟩) (Kd.R_far (p := ⟨gb143, 0, none⟩) (Kd.R_types HO_7.out BK143.out (by decide)) (fun _ hk => hk.2) (.int .i64 ((rd_T70 t133 x22_1).f0))) (fun _ hk => hk.2) (.int .u8 ((rd_T70 t133 x22_1).f1))) (fun _ hk => trivial)⟩
                        have n2_ : Aside0 (Kd.R k70 70 ((w32.setCell ⟨gb143, 0, none⟩ (.int .i64 ((rd_T70 t133 x22_1).f0))).setCell ⟨gb143, 1, none⟩ (.int .u8 ((rd_T70 t133 x22_1).f1))) w.heap.size (fun k_ => k_ ≠ gb143) (.slice (some ad142) t133.length co11) t133) := ⟨by (with_reducible repeat (first | apply Kd.R_alloc | apply Kd.R_drewN | apply Kd.R_drew)); exact Kd.R_mono (Kd.R_far (p := ⟨gb143, 1, none⟩) (Kd.R_far (p := ⟨gb143, 0, none⟩) (Kd.R_mono HO_20.out (fun k_ hk => (⟨hk, hk.2⟩ : _ ∧ k_ ≠ gb143))) (fun _ hk => hk.2) (.int .i64 ((rd_T70 t133 x22_1).f0))) (fun _ hk => hk.2) (.int .u8 ((rd_T70 t133 x22_1).f1))) (fun _ hk => hk.1.2)⟩
                        have n3_ : Aside0 (((w32.setCell ⟨gb143, 0, none⟩ (.int .i64 ((rd_T70 t133 x22_1).f0))).setCell ⟨gb143, 1, none⟩ (.int .u8 ((rd_T70 t133 x22_1).f1))).heap[gb143]? = some (.cells #[.int .i64 ((rd_T70 t133 x22_1).f0), .int .u8 ((rd_T70 t133 x22_1).f1)] 70 (0, 0))) := ⟨by (with_reducible repeat (first | refine blk_drewN ?_ _ | refine blk_drew ?_ | refine blk_alloc ?_ _)); refine blk_put (cs := #[.int .i64 ((rd_T70 t133 x22_1).f0), .int .u8 0]) ?_ 1 _ rfl; (with_reducible repeat (first | refine blk_drewN ?_ _ | refine blk_drew ?_ | refine blk_alloc ?_ _)); refine blk_put (cs := #[.int .i64 0, .int .u8 0]) ?_ 0 _ rfl; (with_reducible repeat (first | refine blk_drewN ?_ _ | refine blk_drew ?_ | refine blk_alloc ?_ _)); exact BK143.out⟩
                        have n4_ : Aside0 (Below w.heap.size w ((w32.setCell ⟨gb143, 0, none⟩ (.int .i64 ((rd_T70 t133 x22_1).f0))).setCell ⟨gb143, 1, none⟩ (.int .u8 ((rd_T70 t133 x22_1).f1)))) := ⟨by repeat (first | (with_reducible first | exact HB.out | apply below_alloc | apply pw_below_drewN | apply below_drew1 | refine below_set ?_ GE143.out) | exact HB.out)⟩
                        (try clear HO_6)
                        (try clear HO_7)
                        (try clear HO_20)
                        (try clear BK143)
                        (try clear HB)
                        generalize ((w32.setCell ⟨gb143, 0, none⟩ (.int .i64 ((rd_T70 t133 x22_1).f0))).setCell ⟨gb143, 1, none⟩ (.int .u8 ((rd_T70 t133 x22_1).f1))) = w34 at n0_ n1_ n2_ n3_ n4_ ⊢
                        have HO_6 := n0_
                        have HO_7 := n1_
                        have HO_20 := n2_
                        have BK143 := n3_
                        have HB := n4_
                        clear n0_ n1_ n2_ n3_ n4_
                        have n0_ := Aside0.mk (Kd.S_drew HO_6.out)
                        have n1_ := Aside0.mk (Kd.R_drew HO_7.out)
                        have n2_ := Aside0.mk (Kd.R_drew HO_20.out)
                        have n3_ := Aside0.mk (blk_drew BK143.out)
                        have n4_ := Aside0.mk (below_drew1 HB.out)
                        clear HO_6
                        clear HO_7
                        clear HO_20
                        clear BK143
                        clear HB
                        have HO_6 := n0_
                        have HO_7 := n1_
                        have HO_20 := n2_
                        have BK143 := n3_
                        have HB := n4_
                        clear n0_ n1_ n2_ n3_ n4_
                        obtain ⟨Ao36, co36, eo36⟩ := Kd.S_slice HO_6.out
                        (first | subst eo36 | (injection eo36 with f1_ f2_ f3_; have f4_ := f1_.symm; have f5_ := f3_.symm; clear f1_ f2_ f3_; subst f4_; subst f5_))
                        have p146 : 0 ≤ ((ji28) : Int) := of_decide_eq_true (by first | (with_reducible assumption) | assumption)
                        have q146 : (ji28) < (t136.length : Int) := of_decide_eq_true (by first | (with_reducible assumption) | assumption)
                        obtain ⟨ad146, A146_0, c146_0, e146, hx146_0, hl146_0, hi146_0⟩ := at_L3 (Kd.S_reads' HO_6.out).2.2 (ji28) p146 q146
                        cases e146
                        obtain ⟨ce146, hce146, hMe146, hcc146⟩ := Kd.S_get HO_6.out [] (ji28) p146 (by first | exact q146 | exact of_decide_eq_true (by first | (with_reducible assumption) | assumption) | (have e_ := (Kd.S_reads' HO_6.out).1; omega))
                        obtain ⟨ve146_0, rfl, ge146_0⟩ := hMe146
                        have hv146_0 := hcc146 0 _ rfl
                        rw [Nat.add_zero, show ((Kd.slice 5 (Kd.int .u8))).sz = 1 from rfl, Nat.mul_one] at hv146_0
                        replace hv146_0 := Option.some.inj (hv146_0.symm.trans hx146_0)
                        rw [hv146_0] at ge146_0
                        have HL146_0 := Aside0.mk (show Kd.R (Kd.int .u8) 5 _ _ _ _ (rd_L3 t136 (ji28)) from ge146_0)
                        clear hv146_0 ge146_0
                        clear hcc146 hce146
                        have HR146_0 := Aside0.mk hi146_0
                        have HC146_0 := Aside0.mk hl146_0
                        clear hi146_0 hl146_0
                        replace p146 := eq_true p146
                        replace q146 := eq_true q146
                        obtain ⟨Ao37, co37, eo37⟩ := Kd.R_slice HO_7.out
                        (first | subst eo37 | (injection eo37 with f1_ f2_ f3_; have f4_ := f1_.symm; have f5_ := f3_.symm; clear f1_ f2_ f3_; subst f4_; subst f5_))
                        refine start_ (n := 15) (S := fun w' => w'.cell? ⟨gb143, 0, none⟩ = some (.int .i64 ((rd_T70 t133 x22_1).f0)) ∧ w'.cell? ⟨gb143, 1, none⟩ = some (.int .u8 ((rd_T70 t133 x22_1).f1)) ∧ w'.cell? (ad146.add ((ji28)).toNat) = some (.slice A146_0 (rd_L3 t136 (ji28)).length c146_0)) (ds := []) #[false, false, false, false, false, false, false, false, false, false, false, false, false, false, false] (by kernel_rfl) rfl rfl ⟨(blk_cell BK143.out 0).trans rfl, (blk_cell BK143.out 1).trans rfl, hx146_0⟩ (fun hHeld => ?_); refine with_tabW row_Of.tab11 row_Of.bits11 (fun HT_ HW_ => ?_)
                        generalize w34.drew = w35 at HO_6 HO_7 HO_20 BK143 HB HL146_0 HR146_0 hx146_0 hHeld ⊢
                        refine pure_ (i := 0) (N := some 40) (v := ?_) (a' := ?_) #[true, false, false, false, false, false, false, false, false, false, false, false, false, false, false] rfl rfl (any_of HT_.out (by kernel_rfl)) (fun _ _ _ h => h) (Or.inl ⟨by rfl, ?_⟩) ?_ ?_
                        rotate_left
                        · intro w'
                          go_simp
                          with_reducible rfl
                        rotate_left
                        · simp only [Act.put, List.setIfInBounds_toArray, List.set_cons_zero, List.set_cons_succ, i64_w, i32_w]
                          rfl
                        refine pure_ (i := 1) (N := some 41) (v := ?_) (a' := ?_) #[true, true, false, false, false, false, false, false, false, false, false, false, false, false, false] rfl rfl (any_of HT_.out (by kernel_rfl)) (fun _ _ _ h => h) (Or.inl ⟨by rfl, ?_⟩) ?_ ?_
                        rotate_left
                        · intro w'
                          go_simp
                          with_reducible rfl
                        rotate_left
                        · simp only [Act.put, List.setIfInBounds_toArray, List.set_cons_zero, List.set_cons_succ, i64_w, i32_w]
                          rfl
                        refine pure_ (i := 2) (N := some 42) (v := ?_) (a' := ?_) #[true, true, true, false, false, false, false, false, false, false, false, false, false, false, false] rfl rfl (any_of HT_.out (by kernel_rfl)) (fun _ _ _ h => h) (Or.inl ⟨by rfl, ?_⟩) ?_ ?_
                        rotate_left
                        · intro w'
                          go_simp
                          with_reducible rfl
                        rotate_left
                        · simp only [Act.put, List.setIfInBounds_toArray, List.set_cons_zero, List.set_cons_succ, i64_w, i32_w]
                          rfl
                        refine pure_ (i := 4) (N := some 44) (v := ?_) (a' := ?_) #[true, true, true, false, true, false, false, false, false, false, false, false, false, false, false] rfl rfl (any_of HT_.out (by kernel_rfl)) (fun _ _ _ h => h) (Or.inl ⟨by rfl, ?_⟩) ?_ ?_
                        rotate_left
                        · intro w'
                          go_simp
                          with_reducible rfl
                        rotate_left
                        · simp only [Act.put, List.setIfInBounds_toArray, List.set_cons_zero, List.set_cons_succ, i64_w, i32_w]
                          rfl
                        refine pure_ (i := 8) (N := some 48) (v := ?_) (a' := ?_) #[true, true, true, false, true, false, false, false, true, false, false, false, false, false, false] rfl rfl (any_of HT_.out (by kernel_rfl)) (fun _ _ _ h => h) (Or.inl ⟨by rfl, ?_⟩) ?_ ?_
                        rotate_left
                        · intro w'
                          go_simp
                          with_reducible rfl
                        rotate_left
                        · simp only [Act.put, List.setIfInBounds_toArray, List.set_cons_zero, List.set_cons_succ, i64_w, i32_w]
                          rfl
                        refine take_ (i := 3) (N := some 43) (v := ?_) (a' := ?_) #[true, true, true, true, true, false, false, false, true, false, false, false, false, false, false] rfl rfl (take_ofW HT_.out HW_.out (by kernel_rfl)) (fun _ _ _ h => h) (Or.inl ⟨by rfl, ?_⟩) hHeld ?_ ?_
                        rotate_left
                        · rintro w' ⟨s0, s1, s2⟩
                          go_simp
                          with_reducible rfl
                        rotate_left
                        · simp only [Act.put, List.setIfInBounds_toArray, List.set_cons_zero, List.set_cons_succ, i64_w, i32_w]
                          rfl
                        refine pure_ (i := 5) (N := some 45) (v := ?_) (a' := ?_) #[true, true, true, true, true, true, false, false, true, false, false, false, false, false, false] rfl rfl (any_of HT_.out (by kernel_rfl)) (fun _ _ _ h => h) (Or.inl ⟨by rfl, ?_⟩) ?_ ?_
                        rotate_left
                        · intro w'
                          go_simp
                          with_reducible rfl
                        rotate_left
                        · simp only [Act.put, List.setIfInBounds_toArray, List.set_cons_zero, List.set_cons_succ, i64_w, i32_w]
                          rfl
                        refine pure_ (i := 6) (N := some 46) (v := ?_) (a' := ?_) #[true, true, true, true, true, true, true, false, true, false, false, false, false, false, false] rfl rfl (any_of HT_.out (by kernel_rfl)) (fun _ _ _ h => h) (Or.inl ⟨by rfl, ?_⟩) ?_ ?_
                        rotate_left
                        · intro w'
                          go_simp
                          with_reducible rfl
                        rotate_left
                        · simp only [Act.put, List.setIfInBounds_toArray, List.set_cons_zero, List.set_cons_succ, i64_w, i32_w]
                          rfl
                        refine take_ (i := 7) (N := some 47) (v := ?_) (a' := ?_) #[true, true, true, true, true, true, true, true, true, false, false, false, false, false, false] rfl rfl (take_ofW HT_.out HW_.out (by kernel_rfl)) (fun _ _ _ h => h) (Or.inl ⟨by rfl, ?_⟩) hHeld ?_ ?_
                        rotate_left
                        · rintro w' ⟨s0, s1, s2⟩
                          go_simp
                          with_reducible rfl
                        rotate_left
                        · simp only [Act.put, List.setIfInBounds_toArray, List.set_cons_zero, List.set_cons_succ, i64_w, i32_w]
                          rfl
                        refine take_ (i := 9) (N := some 49) (v := ?_) (a' := ?_) #[true, true, true, true, true, true, true, true, true, true, false, false, false, false, false] rfl rfl (take_ofW HT_.out HW_.out (by kernel_rfl)) (fun _ _ _ h => h) (Or.inl ⟨by rfl, ?_⟩) hHeld ?_ ?_
                        rotate_left
                        · rintro w' ⟨s0, s1, s2⟩
                          go_simp
                          with_reducible rfl
                        rotate_left
                        · simp only [Act.put, List.setIfInBounds_toArray, List.set_cons_zero, List.set_cons_succ, i64_w, i32_w]
                          rfl
                        refine one_ (i := 10) (N := some 50) #[true, true, true, true, true, true, true, true, true, true, true, false, false, false, false] rfl rfl (one_of HT_.out (by kernel_rfl)) (by decide) (fun K hK => ?_)
                        refine goes_ Try.func54 (by kernel_rfl) rfl #[.slice Ao37 x7_1.length co37, .slice A146_0 (rd_L3 t136 (ji28)).length c146_0, .int .u8 ((rd_T70 t133 x22_1).f1)] (by rfl) rfl rfl (by (try simp only [List.map_toArray, List.map_cons, List.map_nil]); first | done | (simp only [hji28]; rfl) | rfl | (simp only [List.length_drop, List.length_take]; rfl)) ?_
                        with_reducible refine (vector_Axpy.calls _ _ x7_1 _ _ (rd_L3 t136 (ji28)) ((rd_T70 t133 x22_1).f1) t147 t148 _ ?side1 ?side2 ?side3 ?side4 A31.out).mono ?_
                        (case side1 => repeat (first | exact (Kd.R_reads' HO_7.out).2.2 | (with_reducible refine Kd.C_alloc ?_ _) | (with_reducible refine Kd.C_drewN ?_ _) | (with_reducible refine Kd.C_drew ?_)))
                        (case side2 => exact (Kd.R_reads' HO_7.out).2.1)
                        (case side3 => repeat (first | exact (by repeat (first | (with_reducible exact HR146_0.out) | (with_reducible refine Kd.C_alloc ?_ _) | (with_reducible refine Kd.C_drewN ?_ _) | (with_reducible refine Kd.C_drew ?_) | exact HR146_0.out)) | (with_reducible refine Kd.C_alloc ?_ _) | (with_reducible refine Kd.C_drewN ?_ _) | (with_reducible refine Kd.C_drew ?_)))
                        (case side4 => exact HC146_0.out)
                        rintro e w38 ⟨v149, rfl, ho0, hb⟩
                        have HS2_ := (hb.cell (World.block_lt_of_cell? _ _ (hHeld.2.2))).trans (hHeld.2.2)
                        refine ⟨_, rfl, ?_⟩
                        have n0_ := Aside0.mk (Kd.S_elder' (by (with_reducible repeat (first | apply Kd.S_alloc | apply Kd.S_drewN | apply Kd.S_drew)); exact HO_6.out) (Kd.R_base ho0) hb)
                        have n1_ := Aside0.mk (Kd.R_elder' (by (with_reducible repeat (first | apply Kd.R_alloc | apply Kd.R_drewN | apply Kd.R_drew)); exact HO_7.out) (Kd.R_base ho0) hb)
                        have n2_ := Aside0.mk (Kd.R_below (by (with_reducible repeat (first | apply Kd.R_alloc | apply Kd.R_drewN | apply Kd.R_drew)); exact HO_20.out) hb)
                        have n3_ := Aside0.mk (Kd.R_elder' (by (with_reducible repeat (first | apply Kd.R_alloc | apply Kd.R_drewN | apply Kd.R_drew)); exact HL146_0.out) (Kd.R_base ho0) hb)
                        have n4_ := Aside0.mk (Kd.R_lower (Kd.R_new' (Kd.R_new' ho0 (Kd.R_lt (by (with_reducible repeat (first | apply Kd.R_alloc | apply Kd.R_drewN | apply Kd.R_drew)); exact HO_7.out))) (Kd.R_lt (by (with_reducible repeat (first | apply Kd.R_alloc | apply Kd.R_drewN | apply Kd.R_drew)); exact HL146_0.out))) (below_size (by repeat (first | (with_reducible first | exact HB.out | apply below_alloc | apply pw_below_drewN | apply below_drew1 | refine below_set ?_ GE143.out) | exact HB.out))))
                        have n5_ := Aside0.mk (blk_below (g := gb143) (o := .cells #[.int .i64 ((rd_T70 t133 x22_1).f0), .int .u8 ((rd_T70 t133 x22_1).f1)] 70 (0, 0)) (by (with_reducible repeat (first | refine blk_drewN ?_ _ | refine blk_drew ?_ | refine blk_alloc ?_ _)); exact BK143.out) hb)
                        have n6_ := Aside0.mk (Kd.C_below (by repeat (first | (with_reducible exact HR146_0.out) | (with_reducible refine Kd.C_alloc ?_ _) | (with_reducible refine Kd.C_drewN ?_ _) | (with_reducible refine Kd.C_drew ?_) | exact HR146_0.out)) hb)
                        have n7_ := Aside0.mk (below_step (by repeat (first | (with_reducible first | exact HB.out | apply below_alloc | apply pw_below_drewN | apply below_drew1 | refine below_set ?_ GE143.out) | exact HB.out)) hb)
                        clear HO_6
                        clear HO_7
                        clear HO_20
                        clear HL146_0
                        clear BK143
                        clear HR146_0
                        clear HB
                        have HO_6 := n0_
                        have HO_7 := n1_
                        have HO_20 := n2_
                        have HL146_0 := n3_
                        have HO150 := n4_
                        have BK143 := n5_
                        have HR146_0 := n6_
                        have HB := n7_
                        clear n0_ n1_ n2_ n3_ n4_ n5_ n6_ n7_
                        (try clear hb)
                        (try clear hb2)
                        (try clear hk)
                        (try clear hi)
                        (try clear ho0)
                        refine hK.out _ _ ⟨(blk_cell BK143.out 0).trans rfl, (blk_cell BK143.out 1).trans rfl, HS2_⟩ (fun hHeld => ?_)
                        clear hK K
                        refine norm_ (a' := ?_) ?_ ?_
                        rotate_left
                        · show Act.put _ (some 50) _ = _
                          simp only [Act.put, List.setIfInBounds_toArray, List.set_cons_zero, List.set_cons_succ, i64_w, i32_w]
                          rfl
                        refine pure_ (i := 11) (N := some 39) (v := ?_) (a' := ?_) #[true, true, true, true, true, true, true, true, true, true, true, true, false, false, false] rfl rfl (any_of HT_.out (by kernel_rfl)) (fun _ _ _ h => h) (Or.inl ⟨by rfl, ?_⟩) ?_ ?_
                        rotate_left
                        · intro w'
                          go_simp
                          with_reducible rfl
                        rotate_left
                        · simp only [Act.put, List.setIfInBounds_toArray, List.set_cons_zero, List.set_cons_succ, i64_w, i32_w]
                          rfl
                        refine pure_ (i := 12) (N := some 51) (v := ?_) (a' := ?_) #[true, true, true, true, true, true, true, true, true, true, true, true, true, false, false] rfl rfl (any_of HT_.out (by kernel_rfl)) (fun _ _ _ h => h) (Or.inl ⟨by rfl, ?_⟩) ?_ ?_
                        rotate_left
                        · intro w'
                          go_simp
                          with_reducible rfl
                        rotate_left
                        · simp only [Act.put, List.setIfInBounds_toArray, List.set_cons_zero, List.set_cons_succ, i64_w, i32_w]
                          rfl
                        refine pure_ (i := 13) (N := some 52) (v := ?_) (a' := ?_) #[true, true, true, true, true, true, true, true, true, true, true, true, true, true, false] rfl rfl (any_of HT_.out (by kernel_rfl)) (fun _ _ _ h => h) (Or.inl ⟨by rfl, ?_⟩) ?_ ?_
                        rotate_left
                        · intro w'
                          go_simp
                          with_reducible rfl
                        rotate_left
                        · simp only [Act.put, List.setIfInBounds_toArray, List.set_cons_zero, List.set_cons_succ, i64_w, i32_w]
                          rfl
                        refine pure_ (i := 14) (N := some 7) (v := ?_) (a' := ?_) #[true, true, true, true, true, true, true, true, true, true, true, true, true, true, true] rfl rfl (any_of HT_.out (by kernel_rfl)) (fun _ _ _ h => h) (Or.inl ⟨by rfl, ?_⟩) ?_ ?_
                        rotate_left
                        · intro w'
                          go_simp
                          with_reducible rfl
                        rotate_left
                        · simp only [Act.put, List.setIfInBounds_toArray, List.set_cons_zero, List.set_cons_succ, i64_w, i32_w]
                          rfl
                        refine done_ (done_of HT_.out (by kernel_rfl)) ?_
                        try go_wp2
                        go_roundg k1
                        case measure => have := HK1.out; omega
                        case rel => exact ⟨(t147), (wrap64 (x22_1 + 1)), (by first | rfl | (simp; done) | (simp [*]; done)), H', ⟨by have := HK1.out; omega⟩, ⟨by (with_reducible repeat (first | apply Kd.S_alloc | apply Kd.S_drewN | apply Kd.S_drew)); exact Kd.S_mono HO_6.out (fun _ hk => by first | exact hk.2 | exact hk.1 | exact hk.1.1 | exact hk.1.2 | exact hk.2.1 | exact hk.2.2)⟩, ⟨by (with_reducible repeat (first | apply Kd.R_alloc | apply Kd.R_drewN | apply Kd.R_drew)); exact Kd.R_mono HO150.out (fun _ hk => trivial)⟩, ⟨by (with_reducible repeat (first | apply Kd.R_alloc | apply Kd.R_drewN | apply Kd.R_drew)); exact Kd.R_mono HO_20.out (fun _ hk => trivial)⟩, ⟨by repeat (first | (with_reducible first | exact HB.out | apply below_alloc | apply pw_below_drewN | apply below_drew1 | refine below_set ?_ GE143.out) | exact HB.out)⟩⟩
                      · rw [if_neg c30] at H
                        exact absurd H (by simp)
                    · rw [if_neg c29] at H
                      exact absurd H (by simp)
                · rw [if_neg c17] at H
                  exact absurd H (by simp)
              · rw [if_neg c16] at H
                exact absurd H (by simp)
            · rw [if_neg c15] at H
              have c15b0 : decide (x22_1 < (t133.length : Int)) = false := decide_eq_false c15
              clear c15
              obtain rfl := Option.some.inj H
              go_wp2
              go_ret
              exact ⟨_, by first | rfl | (simp [errW_none, errW_some] <;> rfl) | (simp [*, errW_none, errW_some] <;> rfl), by (with_reducible repeat (first | apply Kd.R_alloc | apply Kd.R_drewN | apply Kd.R_drew)); exact HO_7.out, by repeat (first | (with_reducible first | exact HB.out | apply below_alloc | apply pw_below_drewN | apply below_drew1) | exact HB.out)⟩
      · rw [if_neg c9] at H
        exact absurd H (by simp)
    · rw [if_neg c8] at H
      exact absurd H (by simp)

/-! ### geyserlaw08_awake: function 44 -/
def geyserlaw08_awake.f (k : Nat)  : Option (Bool) := (row_Of.f k 1 0).bind fun t151 => (if (t151.length : Int) = 1 then ((row_Cells.f k (([0, 3] : List Int))).bind fun t157 => (some ((t157.length : Int) == 1))) else (some false))
theorem geyserlaw08_awake.mono : ∀ k, LeO (geyserlaw08_awake.f k ) (geyserlaw08_awake.f (k + 1) ) := by
  intro  k
  unfold geyserlaw08_awake.f
  repeat' first
      | (with_reducible exact row_Cells.mono _ _)
      | (with_reducible exact row_Of.mono _ _ _)
      | (with_reducible exact LeO.refl _)
      | (with_reducible exact LeO.none _)
      | (with_reducible refine LeO.ite ?_ ?_)
      | (with_reducible refine LeO.bind ?_ (fun _ => ?_))
      | exact row_Cells.mono _ _
      | exact row_Of.mono _ _ _
      | exact LeO.none _
      | refine LeO.ite ?_ ?_
      | refine LeO.bind ?_ (fun _ => ?_)
set_option maxHeartbeats 8000000 in
set_option maxRecDepth 100000 in
theorem geyserlaw08_awake.calls (k : Nat)  (r : Bool) (w : World) (h : geyserlaw08_awake.f k  = some r) :
    Calls Try.prog 44 #[] w fun e w' => e = .returned (.bool r) ∧ Below w.heap.size w w' := by
  have HB := Aside0.mk (Below.refl w.heap.size w)
  have H : ((row_Of.f k 1 0).bind fun t151 => (if (t151.length : Int) = 1 then ((row_Cells.f k (([0, 3] : List Int))).bind fun t157 => (some ((t157.length : Int) == 1))) else (some false))) = some r := h
  clear h
  replace H := Option.bind_eq_some_iff.mp H
  obtain ⟨t151, A10, H⟩ := H
  replace H : (if (t151.length : Int) = 1 then ((row_Cells.f k (([0, 3] : List Int))).bind fun t157 => (some ((t157.length : Int) == 1))) else (some false)) = some r := H
  have A1 := Aside0.mk A10
  clear A10
  by_cases c2 : (t151.length : Int) = 1
  · rw [if_pos c2] at H
    have c2b0 : ((t151.length : Int) == 1) = true := beq_iff_eq.mpr c2
    have c2b1 : ((t151.length : Int) != 1) = false := bne_eq_false_iff_eq.mpr c2
    clear c2
    obtain ⟨y154, hy154⟩ : ∃ y_ : List Int, y_ = (([0, 3] : List Int)) := ⟨_, rfl⟩
    replace H : ((row_Cells.f k y154).bind fun t157 => (some ((t157.length : Int) == 1))) = some r := by first | (rw [hy154]; with_reducible exact H) | (have H2_ := (Option.bind_some _ _).symm.trans H; rw [hy154]; with_reducible exact H2_) | (have H2_ := (Option.bind_some _ _).symm.trans H; with_reducible exact H2_) | with_reducible exact H | (rw [hy154]; exact H) | exact H
    have Ny154 := Aside0.mk hy154
    clear hy154
    replace H := Option.bind_eq_some_iff.mp H
    obtain ⟨t157, A30, H⟩ := H
    replace H : (some ((t157.length : Int) == 1)) = some r := H
    have A3 := Aside0.mk A30
    clear A30
    obtain rfl := Option.some.inj H
    go_enter Try.func44, Try.ntmps44
    go_wp2_with (first | ((with_reducible refine gate_callee (f := 74) rfl ?_); refine goesL_ (some 1) rfl rfl Try.func74 (by kernel_rfl) rfl #[.int .i64 1, .int .u32 0] rfl (by (try simp only [List.map_toArray, List.map_cons, List.map_nil]); first | done | rfl | (simp only [List.length_drop, List.length_take]; rfl)) ?_; (with_reducible refine (row_Of.calls k 1 0 t151 _ A1.out).mono ?_); rintro e w4 ⟨v152, rfl, ho0, hb⟩; refine ⟨_, rfl, ?_⟩; have n0_ := Aside0.mk (Kd.R_lower ho0 (below_size (by repeat (first | (with_reducible first | exact HB.out | apply below_alloc | apply pw_below_drewN | apply below_drew1) | exact HB.out)))); have n1_ := Aside0.mk (below_step (by repeat (first | (with_reducible first | exact HB.out | apply below_alloc | apply pw_below_drewN | apply below_drew1) | exact HB.out)) hb); clear HB; have HO153 := n0_; have HB := n1_; clear n0_ n1_; (try clear hb); (try clear hb2); (try clear hk); (try clear hi); (try clear ho0); obtain ⟨Ao5, co5, eo5⟩ := Kd.R_slice HO153.out; subst eo5) | ((with_reducible refine gate_dst (N := 5) rfl ?_); (try (refine gate_guard (by rfl) ?_; dsimp only)); refine Kd.R_lit (Kd.int .u8) _ 5 ?hg (N := 5) ?hd (xs := ([0, 3] : List Int)) (inner := [.int .u8 0, .int .u8 3]) (ok := fun _ => True) (okp := fun _ => True) ?hr ?hp (fun _ hk => hk) trivial (Below.refl _ _) (Nat.le_refl _) (by simp) ?_; (case hd => rfl); (case hg => rfl); (case hr => first | (go_simp; done) | (go_simp; rfl)); (case hp => exact (Reps.one (show Kd.M (Kd.int .u8) _ _ _ 0 [.int .u8 0] from rfl) (Reps.one (show Kd.M (Kd.int .u8) _ _ _ 3 [.int .u8 3] from rfl) (Reps.none _ _)))); intro v155 w6 ho7 hb hg_ hnew_; clear hg_ hnew_; (first | rw [← Ny154.out] at ho7 | (simp only [Int.reduceToNat] at ho7; rw [← Ny154.out] at ho7)); have n0_ := Aside0.mk (Kd.R_elder' (by (with_reducible repeat (first | apply Kd.R_alloc | apply Kd.R_drewN | apply Kd.R_drew)); exact HO153.out) (Kd.R_base ho7) hb); have n1_ := Aside0.mk (Kd.R_lower (Kd.R_new' ho7 (Kd.R_lt (by (with_reducible repeat (first | apply Kd.R_alloc | apply Kd.R_drewN | apply Kd.R_drew)); exact HO153.out))) (below_size (by repeat (first | (with_reducible first | exact HB.out | apply below_alloc | apply pw_below_drewN | apply below_drew1) | exact HB.out)))); have n2_ := Aside0.mk (below_step (by repeat (first | (with_reducible first | exact HB.out | apply below_alloc | apply pw_below_drewN | apply below_drew1) | exact HB.out)) hb); clear HO153; clear HB; have HO153 := n0_; have HO156 := n1_; have HB := n2_; clear n0_ n1_ n2_; clear hb ho7; obtain ⟨Ao8, co8, eo8⟩ := Kd.R_slice HO156.out; subst eo8) | (go_at_call 45; (with_reducible refine (row_Cells.calls k _ _ y154 t157 _ ?side1 ?side2 A3.out).mono ?_); (case side1 => repeat (first | exact (Kd.R_reads' HO156.out).2.2 | (with_reducible refine Kd.C_alloc ?_ _) | (with_reducible refine Kd.C_drewN ?_ _) | (with_reducible refine Kd.C_drew ?_))); (case side2 => exact (Kd.R_reads' HO156.out).2.1); rintro e w9 ⟨v158, rfl, ho0, hb⟩; have n0_ := Aside0.mk (Kd.R_below (by (with_reducible repeat (first | apply Kd.R_alloc | apply Kd.R_drewN | apply Kd.R_drew)); exact HO153.out) hb); have n1_ := Aside0.mk (Kd.R_below (by (with_reducible repeat (first | apply Kd.R_alloc | apply Kd.R_drewN | apply Kd.R_drew)); exact HO156.out) hb); have n2_ := Aside0.mk (Kd.R_lower ho0 (below_size (by repeat (first | (with_reducible first | exact HB.out | apply below_alloc | apply pw_below_drewN | apply below_drew1) | exact HB.out)))); have n3_ := Aside0.mk (below_step (by repeat (first | (with_reducible first | exact HB.out | apply below_alloc | apply pw_below_drewN | apply below_drew1) | exact HB.out)) hb); clear HO153; clear HO156; clear HB; have HO153 := n0_; have HO156 := n1_; have HO159 := n2_; have HB := n3_; clear n0_ n1_ n2_ n3_; (try clear hb); (try clear hb2); (try clear hk); (try clear hi); (try clear ho0); obtain ⟨Ao10, co10, eo10⟩ := Kd.R_slice HO159.out; subst eo10))
    go_ret
    exact ⟨by first | rfl | (simp [errW_none, errW_some] <;> rfl) | (simp [*, errW_none, errW_some] <;> rfl), by repeat (first | (with_reducible first | exact HB.out | apply below_alloc | apply pw_below_drewN | apply below_drew1) | exact HB.out)⟩
  · rw [if_neg c2] at H
    have c2b0 : ((t151.length : Int) == 1) = false := beq_eq_false_iff_ne.mpr c2
    have c2b1 : ((t151.length : Int) != 1) = true := bne_iff_ne.mpr c2
    obtain rfl := Option.some.inj H
    go_enter Try.func44, Try.ntmps44
    go_wp2_with (first | ((with_reducible refine gate_callee (f := 74) rfl ?_); refine goesL_ (some 1) rfl rfl Try.func74 (by kernel_rfl) rfl #[.int .i64 1, .int .u32 0] rfl (by (try simp only [List.map_toArray, List.map_cons, List.map_nil]); first | done | rfl | (simp only [List.length_drop, List.length_take]; rfl)) ?_; (with_reducible refine (row_Of.calls k 1 0 t151 _ A1.out).mono ?_); rintro e w11 ⟨v152, rfl, ho0, hb⟩; refine ⟨_, rfl, ?_⟩; have n0_ := Aside0.mk (Kd.R_lower ho0 (below_size (by repeat (first | (with_reducible first | exact HB.out | apply below_alloc | apply pw_below_drewN | apply below_drew1) | exact HB.out)))); have n1_ := Aside0.mk (below_step (by repeat (first | (with_reducible first | exact HB.out | apply below_alloc | apply pw_below_drewN | apply below_drew1) | exact HB.out)) hb); clear HB; have HO153 := n0_; have HB := n1_; clear n0_ n1_; (try clear hb); (try clear hb2); (try clear hk); (try clear hi); (try clear ho0); obtain ⟨Ao12, co12, eo12⟩ := Kd.R_slice HO153.out; subst eo12))
    go_ret
    exact ⟨by first | rfl | (simp [errW_none, errW_some] <;> rfl) | (simp [*, errW_none, errW_some] <;> rfl), by repeat (first | (with_reducible first | exact HB.out | apply below_alloc | apply pw_below_drewN | apply below_drew1) | exact HB.out)⟩

end Go.Proofs.Ytcmigmldecacpaa.QRowCells
