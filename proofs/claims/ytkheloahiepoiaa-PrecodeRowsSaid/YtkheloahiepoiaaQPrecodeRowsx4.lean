/- Machine-made by a program of this claim: functions of the Go program as Lean functions, and that its calls do what these say. Lean checks it. -/
import Derived.Test.YtkheloahiepoiaaQPrecodeRowsx0
import Derived.Test.YtkheloahiepoiaaQPrecodeRowsx1
import Derived.Test.YtkheloahiepoiaaQPrecodeRowsx2
import Derived.Test.YtkheloahiepoiaaQPrecodeRowsx3
namespace Go.Proofs.Ytkheloahiepoiaa.QPrecodeRows
open Go.RowKit Go.Proofs.YtkheloahiepoiaaW.PrintWords Go.Proofs.YtkheloahiepoiaaW.PrintLast Go.Proofs.YtkheloahiepoiaaW.PrintMore
attribute [local go_sem] max2_int min2_int max_two min_two max_three min_three max_four min_four   -- for this text's walks alone
set_option linter.unusedVariables false
set_option linter.unusedSimpArgs false

/-! ### geyserlaw07_PrecodeRows: function 14 -/
mutual
def geyserlaw07_PrecodeRows.j0 : Nat → Int → List (List Int) → Bool → Option (Bool)
  | 0, _, _, _ => none
  | k + 1, x0, x3, x15 => if x15 = true then (if (x3.length : Int) = 0 then ((precode_Count.f x0).bind fun t148 => (some (t148 == 0))) else (some false)) else ((geyserref03_Parities.f k x0).bind fun t149 => (if (x3.length : Int) = (t149.length : Int) then ((precode_Count.f x0).bind fun t152 => (geyserlaw07_PrecodeRows.j1 k x3 t149 (t152 != (t149.length : Int)))) else (geyserlaw07_PrecodeRows.j1 k x3 t149 true)))
def geyserlaw07_PrecodeRows.j1 : Nat → List (List Int) → List (List Int) → Bool → Option (Bool)
  | 0, _, _, _ => none
  | k + 1, x3, x4, x37 => if x37 = true then (some false) else (geyserlaw07_PrecodeRows.l0 k x3 x4 (x4.length : Int) 0)
def geyserlaw07_PrecodeRows.l0 : Nat → List (List Int) → List (List Int) → Int → Int → Option (Bool)
  | 0, _, _, _, _ => none
  | k + 1, x3, x4, x39, x40 => if x40 < x39 then (if 0 ≤ x40 then (if x40 < (x3.length : Int) then (if x40 < (x4.length : Int) then (if (strOfNums (rd_L1 x3 x40)).toList = (strOfNums (rd_L1 x4 x40)).toList then (geyserlaw07_PrecodeRows.l0 k x3 x4 x39 (wrap64 (x40 + 1))) else (some false)) else (none)) else (none)) else (none)) else (some true)
end
def geyserlaw07_PrecodeRows.f (k : Nat) (a0 : Int) : Option (Bool) := (geyserlaw07_awake.f).bind fun t144 => (if t144 = true then ((precode_Rows.f k a0).bind fun t145 => (if a0 < 1 then (geyserlaw07_PrecodeRows.j0 k a0 t145 true) else (geyserlaw07_PrecodeRows.j0 k a0 t145 (decide (a0 > 64))))) else (some false))
theorem geyserlaw07_PrecodeRows.mono_l : ∀ k, (∀ y0 y1 y2, LeO (geyserlaw07_PrecodeRows.j0 k y0 y1 y2) (geyserlaw07_PrecodeRows.j0 (k + 1) y0 y1 y2)) ∧ (∀ y0 y1 y2, LeO (geyserlaw07_PrecodeRows.j1 k y0 y1 y2) (geyserlaw07_PrecodeRows.j1 (k + 1) y0 y1 y2)) ∧ (∀ y0 y1 y2 y3, LeO (geyserlaw07_PrecodeRows.l0 k y0 y1 y2 y3) (geyserlaw07_PrecodeRows.l0 (k + 1) y0 y1 y2 y3))
  | 0 => ⟨fun _ _ _ r h => by simp [geyserlaw07_PrecodeRows.j0] at h, fun _ _ _ r h => by simp [geyserlaw07_PrecodeRows.j1] at h, fun _ _ _ _ r h => by simp [geyserlaw07_PrecodeRows.l0] at h⟩
  | k + 1 => by
    obtain ⟨ih0, ih1, ih2⟩ := geyserlaw07_PrecodeRows.mono_l k
    refine ⟨?_, ?_, ?_⟩
    · intro y0 y1 y2
      unfold geyserlaw07_PrecodeRows.j0
      repeat' first
      | (with_reducible exact ih0 _ _ _)
      | (with_reducible exact ih1 _ _ _)
      | (with_reducible exact ih2 _ _ _ _)
      | (with_reducible exact geyserref03_Parities.mono _ _)
      | (with_reducible exact precode_Rows.mono _ _)
      | (with_reducible exact LeO.refl _)
      | (with_reducible exact LeO.none _)
      | (with_reducible refine LeO.ite ?_ ?_)
      | (with_reducible refine LeO.bind ?_ (fun _ => ?_))
      | exact ih0 _ _ _
      | exact ih1 _ _ _
      | exact ih2 _ _ _ _
      | exact geyserref03_Parities.mono _ _
      | exact precode_Rows.mono _ _
      | exact LeO.none _
      | refine LeO.ite ?_ ?_
      | refine LeO.bind ?_ (fun _ => ?_)
    · intro y0 y1 y2
      unfold geyserlaw07_PrecodeRows.j1
      repeat' first
      | (with_reducible exact ih0 _ _ _)
      | (with_reducible exact ih1 _ _ _)
      | (with_reducible exact ih2 _ _ _ _)
      | (with_reducible exact geyserref03_Parities.mono _ _)
      | (with_reducible exact precode_Rows.mono _ _)
      | (with_reducible exact LeO.refl _)
      | (with_reducible exact LeO.none _)
      | (with_reducible refine LeO.ite ?_ ?_)
      | (with_reducible refine LeO.bind ?_ (fun _ => ?_))
      | exact ih0 _ _ _
      | exact ih1 _ _ _
      | exact ih2 _ _ _ _
      | exact geyserref03_Parities.mono _ _
      | exact precode_Rows.mono _ _
      | exact LeO.none _
      | refine LeO.ite ?_ ?_
      | refine LeO.bind ?_ (fun _ => ?_)
    · intro y0 y1 y2 y3
      unfold geyserlaw07_PrecodeRows.l0
      repeat' first
      | (with_reducible exact ih0 _ _ _)
      | (with_reducible exact ih1 _ _ _)
      | (with_reducible exact ih2 _ _ _ _)
      | (with_reducible exact geyserref03_Parities.mono _ _)
      | (with_reducible exact precode_Rows.mono _ _)
      | (with_reducible exact LeO.refl _)
      | (with_reducible exact LeO.none _)
      | (with_reducible refine LeO.ite ?_ ?_)
      | (with_reducible refine LeO.bind ?_ (fun _ => ?_))
      | exact ih0 _ _ _
      | exact ih1 _ _ _
      | exact ih2 _ _ _ _
      | exact geyserref03_Parities.mono _ _
      | exact precode_Rows.mono _ _
      | exact LeO.none _
      | refine LeO.ite ?_ ?_
      | refine LeO.bind ?_ (fun _ => ?_)
theorem geyserlaw07_PrecodeRows.mono : ∀ a0 k, LeO (geyserlaw07_PrecodeRows.f k a0) (geyserlaw07_PrecodeRows.f (k + 1) a0) := by
  intro a0 k
  obtain ⟨ih0, ih1, ih2⟩ := geyserlaw07_PrecodeRows.mono_l k
  unfold geyserlaw07_PrecodeRows.f
  repeat' first
      | (with_reducible exact ih0 _ _ _)
      | (with_reducible exact ih1 _ _ _)
      | (with_reducible exact ih2 _ _ _ _)
      | (with_reducible exact geyserref03_Parities.mono _ _)
      | (with_reducible exact precode_Rows.mono _ _)
      | (with_reducible exact LeO.refl _)
      | (with_reducible exact LeO.none _)
      | (with_reducible refine LeO.ite ?_ ?_)
      | (with_reducible refine LeO.bind ?_ (fun _ => ?_))
      | exact ih0 _ _ _
      | exact ih1 _ _ _
      | exact ih2 _ _ _ _
      | exact geyserref03_Parities.mono _ _
      | exact precode_Rows.mono _ _
      | exact LeO.none _
      | refine LeO.ite ?_ ?_
      | refine LeO.bind ?_ (fun _ => ?_)
set_option maxHeartbeats 8000000 in
set_option maxRecDepth 100000 in
theorem geyserlaw07_PrecodeRows.calls (k : Nat) (a0 : Int) (r : Bool) (w : World) (h : geyserlaw07_PrecodeRows.f k a0 = some r) :
    Calls Try.prog 14 #[.int .i64 a0] w fun e w' => e = .returned (.bool r) ∧ Below w.heap.size w w' := by
  have HB := Aside0.mk (Below.refl w.heap.size w)
  have H : ((geyserlaw07_awake.f).bind fun t144 => (if t144 = true then ((precode_Rows.f k a0).bind fun t145 => (if a0 < 1 then (geyserlaw07_PrecodeRows.j0 k a0 t145 true) else (geyserlaw07_PrecodeRows.j0 k a0 t145 (decide (a0 > 64))))) else (some false))) = some r := h
  clear h
  replace H := Option.bind_eq_some_iff.mp H
  obtain ⟨t144, A20, H⟩ := H
  replace H : (if t144 = true then ((precode_Rows.f k a0).bind fun t145 => (if a0 < 1 then (geyserlaw07_PrecodeRows.j0 k a0 t145 true) else (geyserlaw07_PrecodeRows.j0 k a0 t145 (decide (a0 > 64))))) else (some false)) = some r := H
  have A2 := Aside0.mk A20
  clear A20
  by_cases c3 : t144 = true
  · subst c3
    have H1 : ((precode_Rows.f k a0).bind fun t145 => (if a0 < 1 then (geyserlaw07_PrecodeRows.j0 k a0 t145 true) else (geyserlaw07_PrecodeRows.j0 k a0 t145 (decide (a0 > 64))))) = some r := by rw [if_pos rfl] at H; exact H
    clear H
    have H := H1
    clear H1
    replace H := Option.bind_eq_some_iff.mp H
    obtain ⟨t145, A40, H⟩ := H
    replace H : (if a0 < 1 then (geyserlaw07_PrecodeRows.j0 k a0 t145 true) else (geyserlaw07_PrecodeRows.j0 k a0 t145 (decide (a0 > 64)))) = some r := H
    have A4 := Aside0.mk A40
    clear A40
    have HC5 := Aside0.mk H
    clear H
    go_enter Try.func14, Try.ntmps14
    go_upto_region 4 with (first | (go_at_call 46; (with_reducible refine (geyserlaw07_awake.calls  true _ A2.out).mono ?_); rintro e w' ⟨rfl, ⟨nd, rfl⟩⟩; (try first | exact ⟨rfl, _, World.drewN_drewN _ _ _⟩ | exact ⟨rfl, _, Eq.trans (World.drewN_drewN _ _ _) (congrArg (World.drewN _) (Nat.add_assoc _ _ _))⟩)) | (go_at_call 47; (with_reducible refine (precode_Rows.calls k a0 t145 _ A4.out).mono ?_); rintro e w6 ⟨v146, rfl, ho0, hb⟩; have n0_ := Aside0.mk (Kd.S_lower ho0 (below_size (by repeat (first | (with_reducible first | exact HB.out | apply below_alloc | apply pw_below_drewN | apply below_drew1) | exact HB.out)))); have n1_ := Aside0.mk (below_step (by repeat (first | (with_reducible first | exact HB.out | apply below_alloc | apply pw_below_drewN | apply below_drew1) | exact HB.out)) hb); clear HB; have HO147 := n0_; have HB := n1_; clear n0_ n1_; (try clear hb); (try clear hb2); (try clear hk); (try clear hi); (try clear ho0)))
    repeat (go_quiet (first | (go_at_call 46; (with_reducible refine (geyserlaw07_awake.calls  true _ A2.out).mono ?_); rintro e w' ⟨rfl, ⟨nd, rfl⟩⟩; (try first | exact ⟨rfl, _, World.drewN_drewN _ _ _⟩ | exact ⟨rfl, _, Eq.trans (World.drewN_drewN _ _ _) (congrArg (World.drewN _) (Nat.add_assoc _ _ _))⟩)) | (go_at_call 47; (with_reducible refine (precode_Rows.calls k a0 t145 _ A4.out).mono ?_); rintro e w6 ⟨v146, rfl, ho0, hb⟩; have n0_ := Aside0.mk (Kd.S_lower ho0 (below_size (by repeat (first | (with_reducible first | exact HB.out | apply below_alloc | apply pw_below_drewN | apply below_drew1) | exact HB.out)))); have n1_ := Aside0.mk (below_step (by repeat (first | (with_reducible first | exact HB.out | apply below_alloc | apply pw_below_drewN | apply below_drew1) | exact HB.out)) hb); clear HB; have HO147 := n0_; have HB := n1_; clear n0_ n1_; (try clear hb); (try clear hb2); (try clear hk); (try clear hi); (try clear ho0))); go_upto_region 4 with (first | (go_at_call 46; (with_reducible refine (geyserlaw07_awake.calls  true _ A2.out).mono ?_); rintro e w' ⟨rfl, ⟨nd, rfl⟩⟩; (try first | exact ⟨rfl, _, World.drewN_drewN _ _ _⟩ | exact ⟨rfl, _, Eq.trans (World.drewN_drewN _ _ _) (congrArg (World.drewN _) (Nat.add_assoc _ _ _))⟩)) | (go_at_call 47; (with_reducible refine (precode_Rows.calls k a0 t145 _ A4.out).mono ?_); rintro e w6 ⟨v146, rfl, ho0, hb⟩; have n0_ := Aside0.mk (Kd.S_lower ho0 (below_size (by repeat (first | (with_reducible first | exact HB.out | apply below_alloc | apply pw_below_drewN | apply below_drew1) | exact HB.out)))); have n1_ := Aside0.mk (below_step (by repeat (first | (with_reducible first | exact HB.out | apply below_alloc | apply pw_below_drewN | apply below_drew1) | exact HB.out)) hb); clear HB; have HO147 := n0_; have HB := n1_; clear n0_ n1_; (try clear hb); (try clear hb2); (try clear hk); (try clear hi); (try clear ho0))))
    (try simp only [Act.put, List.setIfInBounds_toArray, List.set_cons_zero, List.set_cons_succ])
    go_cut [15] (fun v15 wc => ∃ (kq : Nat) (x15_4 : Bool), v15 = .bool x15_4 ∧ Aside0 (geyserlaw07_PrecodeRows.j0 kq a0 t145 x15_4 = some r) ∧ Aside0 (kq ≤ k) ∧ Aside0 (Kd.S (Kd.slice 5 (Kd.int .u8)) 35 wc w.heap.size (fun _ => True) v146 t145) ∧ Aside0 (Below w.heap.size w wc))
    case first =>
      have H := HC5.out
      clear HC5
      by_cases c7 : a0 < 1
      · rw [if_pos c7] at H
        have c7b0 : decide (a0 < 1) = true := decide_eq_true c7
        clear c7
        (first | rw [c7b0] | (simp only [i64_w, i32_w]; rw [c7b0]) | skip)
        have H' := Aside0.mk H
        clear H
        go_wp2
        repeat (go_quiet (fail); try go_wp2)
        go_meet
        case rel => exact ⟨_, (true), (by first | rfl | (simp; done) | (simp [*]; done)), H', ⟨by first | omega | exact Nat.le_refl _⟩, ⟨by (with_reducible repeat (first | apply Kd.S_alloc | apply Kd.S_drewN | apply Kd.S_drew)); exact HO147.out⟩, ⟨by repeat (first | (with_reducible first | exact HB.out | apply below_alloc | apply pw_below_drewN | apply below_drew1) | exact HB.out)⟩⟩
      · rw [if_neg c7] at H
        have c7b0 : decide (a0 < 1) = false := decide_eq_false c7
        clear c7
        (first | rw [c7b0] | (simp only [i64_w, i32_w]; rw [c7b0]) | skip)
        have H' := Aside0.mk H
        clear H
        go_wp2
        repeat (go_quiet (fail); try go_wp2)
        go_meet
        case rel => exact ⟨_, (decide (a0 > 64)), (by first | rfl | (simp; done) | (simp [*]; done)), H', ⟨by first | omega | exact Nat.le_refl _⟩, ⟨by (with_reducible repeat (first | apply Kd.S_alloc | apply Kd.S_drewN | apply Kd.S_drew)); exact HO147.out⟩, ⟨by repeat (first | (with_reducible first | exact HB.out | apply below_alloc | apply pw_below_drewN | apply below_drew1) | exact HB.out)⟩⟩
    case rest =>
      clear HC5
      try clear c1
      try clear p2
      try clear c3
      try clear c7
      try clear c7b0
      obtain ⟨kq, x15_4, rfl, HA, HJ4, HO_3, HB⟩ := hcut
      cases kq with
      | zero => exact absurd HA.out (by simp [geyserlaw07_PrecodeRows.j0])
      | succ kj4 =>
        have H := HA.out
        clear HA
        simp only [geyserlaw07_PrecodeRows.j0] at H
        by_cases c8 : x15_4 = true
        · subst c8
          have H1 : (if (t145.length : Int) = 0 then ((precode_Count.f a0).bind fun t148 => (some (t148 == 0))) else (some false)) = some r := by rw [if_pos rfl] at H; exact H
          clear H
          have H := H1
          clear H1
          by_cases c9 : (t145.length : Int) = 0
          · rw [if_pos c9] at H
            have c9b0 : ((t145.length : Int) == 0) = true := beq_iff_eq.mpr c9
            have c9b1 : ((t145.length : Int) != 0) = false := bne_eq_false_iff_eq.mpr c9
            clear c9
            replace H := Option.bind_eq_some_iff.mp H
            obtain ⟨t148, A100, H⟩ := H
            replace H : (some (t148 == 0)) = some r := H
            have A10 := Aside0.mk A100
            clear A100
            obtain rfl := Option.some.inj H
            obtain ⟨Ao11, co11, eo11⟩ := Kd.S_slice HO_3.out
            subst eo11
            go_wp2_with (first | (go_at_call 48; (with_reducible refine (precode_Count.calls a0 t148 _ A10.out).mono ?_); rintro e w' ⟨rfl, ⟨nd, rfl⟩⟩; (try first | exact ⟨rfl, _, World.drewN_drewN _ _ _⟩ | exact ⟨rfl, _, Eq.trans (World.drewN_drewN _ _ _) (congrArg (World.drewN _) (Nat.add_assoc _ _ _))⟩)))
            repeat (go_quiet (first | (go_at_call 48; (with_reducible refine (precode_Count.calls a0 t148 _ A10.out).mono ?_); rintro e w' ⟨rfl, ⟨nd, rfl⟩⟩; (try first | exact ⟨rfl, _, World.drewN_drewN _ _ _⟩ | exact ⟨rfl, _, Eq.trans (World.drewN_drewN _ _ _) (congrArg (World.drewN _) (Nat.add_assoc _ _ _))⟩))); try go_wp2_with (first | (go_at_call 48; (with_reducible refine (precode_Count.calls a0 t148 _ A10.out).mono ?_); rintro e w' ⟨rfl, ⟨nd, rfl⟩⟩; (try first | exact ⟨rfl, _, World.drewN_drewN _ _ _⟩ | exact ⟨rfl, _, Eq.trans (World.drewN_drewN _ _ _) (congrArg (World.drewN _) (Nat.add_assoc _ _ _))⟩))))
            go_ret
            exact ⟨by first | rfl | (simp [errW_none, errW_some] <;> rfl) | (simp [*, errW_none, errW_some] <;> rfl), by repeat (first | (with_reducible first | exact HB.out | apply below_alloc | apply pw_below_drewN | apply below_drew1) | exact HB.out)⟩
          · rw [if_neg c9] at H
            have c9b0 : ((t145.length : Int) == 0) = false := beq_eq_false_iff_ne.mpr c9
            have c9b1 : ((t145.length : Int) != 0) = true := bne_iff_ne.mpr c9
            have c9b2 : ¬ (t145 = []) := fun h_ => c9 (by rw [h_]; rfl)
            obtain rfl := Option.some.inj H
            obtain ⟨Ao12, co12, eo12⟩ := Kd.S_slice HO_3.out
            subst eo12
            go_wp2
            repeat (go_quiet (fail); try go_wp2)
            go_ret
            exact ⟨by first | rfl | (simp [errW_none, errW_some] <;> rfl) | (simp [*, errW_none, errW_some] <;> rfl), by repeat (first | (with_reducible first | exact HB.out | apply below_alloc | apply pw_below_drewN | apply below_drew1) | exact HB.out)⟩
        · replace c8 := Bool.eq_false_iff.mpr c8
          subst c8
          have H1 : ((geyserref03_Parities.f kj4 a0).bind fun t149 => (if (t145.length : Int) = (t149.length : Int) then ((precode_Count.f a0).bind fun t152 => (geyserlaw07_PrecodeRows.j1 kj4 t145 t149 (t152 != (t149.length : Int)))) else (geyserlaw07_PrecodeRows.j1 kj4 t145 t149 true))) = some r := by rw [if_neg (show ¬ (false = true) by decide)] at H; exact H
          clear H
          have H := H1
          clear H1
          replace H := Option.bind_eq_some_iff.mp H
          obtain ⟨t149, A130, H⟩ := H
          replace H : (if (t145.length : Int) = (t149.length : Int) then ((precode_Count.f a0).bind fun t152 => (geyserlaw07_PrecodeRows.j1 kj4 t145 t149 (t152 != (t149.length : Int)))) else (geyserlaw07_PrecodeRows.j1 kj4 t145 t149 true)) = some r := H
          have A13 := Aside0.mk A130
          clear A130
          have HC14 := Aside0.mk H
          clear H
          go_upto_region 7 with (first | (go_at_call 49; (with_reducible refine (geyserref03_Parities.calls kj4 a0 t149 _ A13.out).mono ?_); rintro e w15 ⟨v150, rfl, ho0, hb⟩; have n0_ := Aside0.mk (Kd.S_elder' (by (with_reducible repeat (first | apply Kd.S_alloc | apply Kd.S_drewN | apply Kd.S_drew)); exact HO_3.out) (Kd.S_base ho0) hb); have n1_ := Aside0.mk (Kd.S_lower (Kd.S_new' ho0 (Kd.S_lt (by (with_reducible repeat (first | apply Kd.S_alloc | apply Kd.S_drewN | apply Kd.S_drew)); exact HO_3.out))) (below_size (by repeat (first | (with_reducible first | exact HB.out | apply below_alloc | apply pw_below_drewN | apply below_drew1) | exact HB.out)))); have n2_ := Aside0.mk (below_step (by repeat (first | (with_reducible first | exact HB.out | apply below_alloc | apply pw_below_drewN | apply below_drew1) | exact HB.out)) hb); clear HO_3; clear HB; have HO_3 := n0_; have HO151 := n1_; have HB := n2_; clear n0_ n1_ n2_; (try clear hb); (try clear hb2); (try clear hk); (try clear hi); (try clear ho0)))
          repeat (go_quiet (first | (go_at_call 49; (with_reducible refine (geyserref03_Parities.calls kj4 a0 t149 _ A13.out).mono ?_); rintro e w15 ⟨v150, rfl, ho0, hb⟩; have n0_ := Aside0.mk (Kd.S_elder' (by (with_reducible repeat (first | apply Kd.S_alloc | apply Kd.S_drewN | apply Kd.S_drew)); exact HO_3.out) (Kd.S_base ho0) hb); have n1_ := Aside0.mk (Kd.S_lower (Kd.S_new' ho0 (Kd.S_lt (by (with_reducible repeat (first | apply Kd.S_alloc | apply Kd.S_drewN | apply Kd.S_drew)); exact HO_3.out))) (below_size (by repeat (first | (with_reducible first | exact HB.out | apply below_alloc | apply pw_below_drewN | apply below_drew1) | exact HB.out)))); have n2_ := Aside0.mk (below_step (by repeat (first | (with_reducible first | exact HB.out | apply below_alloc | apply pw_below_drewN | apply below_drew1) | exact HB.out)) hb); clear HO_3; clear HB; have HO_3 := n0_; have HO151 := n1_; have HB := n2_; clear n0_ n1_ n2_; (try clear hb); (try clear hb2); (try clear hk); (try clear hi); (try clear ho0))); go_upto_region 7 with (first | (go_at_call 49; (with_reducible refine (geyserref03_Parities.calls kj4 a0 t149 _ A13.out).mono ?_); rintro e w15 ⟨v150, rfl, ho0, hb⟩; have n0_ := Aside0.mk (Kd.S_elder' (by (with_reducible repeat (first | apply Kd.S_alloc | apply Kd.S_drewN | apply Kd.S_drew)); exact HO_3.out) (Kd.S_base ho0) hb); have n1_ := Aside0.mk (Kd.S_lower (Kd.S_new' ho0 (Kd.S_lt (by (with_reducible repeat (first | apply Kd.S_alloc | apply Kd.S_drewN | apply Kd.S_drew)); exact HO_3.out))) (below_size (by repeat (first | (with_reducible first | exact HB.out | apply below_alloc | apply pw_below_drewN | apply below_drew1) | exact HB.out)))); have n2_ := Aside0.mk (below_step (by repeat (first | (with_reducible first | exact HB.out | apply below_alloc | apply pw_below_drewN | apply below_drew1) | exact HB.out)) hb); clear HO_3; clear HB; have HO_3 := n0_; have HO151 := n1_; have HB := n2_; clear n0_ n1_ n2_; (try clear hb); (try clear hb2); (try clear hk); (try clear hi); (try clear ho0))))
          (try simp only [Act.put, List.setIfInBounds_toArray, List.set_cons_zero, List.set_cons_succ])
          go_cut [37] (fun v37 wc => ∃ (kq : Nat) (x37_13 : Bool), v37 = .bool x37_13 ∧ Aside0 (geyserlaw07_PrecodeRows.j1 kq t145 t149 x37_13 = some r) ∧ Aside0 (kq ≤ kj4) ∧ Aside0 (Kd.S (Kd.slice 5 (Kd.int .u8)) 35 wc w.heap.size (fun k_ => some k_ ≠ (v150 : Value).ownBlock) v146 t145) ∧ Aside0 (Kd.S (Kd.slice 5 (Kd.int .u8)) 35 wc w.heap.size (fun k_ => some k_ ≠ (v146 : Value).ownBlock) v150 t149) ∧ Aside0 (Below w.heap.size w wc))
          case first =>
            have H := HC14.out
            clear HC14
            by_cases c16 : (t145.length : Int) = (t149.length : Int)
            · rw [if_pos c16] at H
              have c16b0 : ((t145.length : Int) == (t149.length : Int)) = true := beq_iff_eq.mpr c16
              have c16b1 : ((t145.length : Int) != (t149.length : Int)) = false := bne_eq_false_iff_eq.mpr c16
              have c16b2 : (t145.length == t149.length) = true := by first | simpa using c16 | (simp at c16 ⊢; omega)
              clear c16
              (first | rw [c16b0] | (simp only [i64_w, i32_w]; rw [c16b0]) | skip)
              replace H := Option.bind_eq_some_iff.mp H
              obtain ⟨t152, A170, H⟩ := H
              replace H : (geyserlaw07_PrecodeRows.j1 kj4 t145 t149 (t152 != (t149.length : Int))) = some r := H
              have A17 := Aside0.mk A170
              clear A170
              have H' := Aside0.mk H
              clear H
              obtain ⟨Ao18, co18, eo18⟩ := Kd.S_slice HO_3.out
              subst eo18
              obtain ⟨Ao19, co19, eo19⟩ := Kd.S_slice HO151.out
              subst eo19
              go_wp2_with (first | (go_at_call 48; (with_reducible refine (precode_Count.calls a0 t152 _ A17.out).mono ?_); rintro e w' ⟨rfl, ⟨nd, rfl⟩⟩; (try first | exact ⟨rfl, _, World.drewN_drewN _ _ _⟩ | exact ⟨rfl, _, Eq.trans (World.drewN_drewN _ _ _) (congrArg (World.drewN _) (Nat.add_assoc _ _ _))⟩)))
              repeat (go_quiet (first | (go_at_call 48; (with_reducible refine (precode_Count.calls a0 t152 _ A17.out).mono ?_); rintro e w' ⟨rfl, ⟨nd, rfl⟩⟩; (try first | exact ⟨rfl, _, World.drewN_drewN _ _ _⟩ | exact ⟨rfl, _, Eq.trans (World.drewN_drewN _ _ _) (congrArg (World.drewN _) (Nat.add_assoc _ _ _))⟩))); try go_wp2_with (first | (go_at_call 48; (with_reducible refine (precode_Count.calls a0 t152 _ A17.out).mono ?_); rintro e w' ⟨rfl, ⟨nd, rfl⟩⟩; (try first | exact ⟨rfl, _, World.drewN_drewN _ _ _⟩ | exact ⟨rfl, _, Eq.trans (World.drewN_drewN _ _ _) (congrArg (World.drewN _) (Nat.add_assoc _ _ _))⟩))))
              go_meet
              case rel => exact ⟨_, ((t152 != (t149.length : Int))), (by first | rfl | (simp; done) | (simp [*]; done)), H', ⟨by have := HJ4.out; first | omega | exact Nat.le_refl _⟩, ⟨by (with_reducible repeat (first | apply Kd.S_alloc | apply Kd.S_drewN | apply Kd.S_drew)); exact Kd.S_mono HO_3.out (fun _ hk => hk.2)⟩, ⟨by (with_reducible repeat (first | apply Kd.S_alloc | apply Kd.S_drewN | apply Kd.S_drew)); exact Kd.S_mono HO151.out (fun _ hk => hk.2)⟩, ⟨by repeat (first | (with_reducible first | exact HB.out | apply below_alloc | apply pw_below_drewN | apply below_drew1) | exact HB.out)⟩⟩
            · rw [if_neg c16] at H
              have c16b0 : ((t145.length : Int) == (t149.length : Int)) = false := beq_eq_false_iff_ne.mpr c16
              have c16b1 : ((t145.length : Int) != (t149.length : Int)) = true := bne_iff_ne.mpr c16
              have c16b2 : (t145.length == t149.length) = false := by first | simpa using c16 | (simp at c16 ⊢; omega)
              (first | rw [c16b0] | (simp only [i64_w, i32_w]; rw [c16b0]) | skip)
              have H' := Aside0.mk H
              clear H
              obtain ⟨Ao20, co20, eo20⟩ := Kd.S_slice HO_3.out
              subst eo20
              obtain ⟨Ao21, co21, eo21⟩ := Kd.S_slice HO151.out
              subst eo21
              go_wp2
              repeat (go_quiet (fail); try go_wp2)
              go_meet
              case rel => exact ⟨_, (true), (by first | rfl | (simp; done) | (simp [*]; done)), H', ⟨by have := HJ4.out; first | omega | exact Nat.le_refl _⟩, ⟨by (with_reducible repeat (first | apply Kd.S_alloc | apply Kd.S_drewN | apply Kd.S_drew)); exact Kd.S_mono HO_3.out (fun _ hk => hk.2)⟩, ⟨by (with_reducible repeat (first | apply Kd.S_alloc | apply Kd.S_drewN | apply Kd.S_drew)); exact Kd.S_mono HO151.out (fun _ hk => hk.2)⟩, ⟨by repeat (first | (with_reducible first | exact HB.out | apply below_alloc | apply pw_below_drewN | apply below_drew1) | exact HB.out)⟩⟩
          case rest =>
            clear HC14
            try clear c1
            try clear p2
            try clear c3
            try clear c7
            try clear c7b0
            try clear c8
            try clear c9
            try clear c9b0
            try clear c9b1
            try clear c9b2
            try clear c14
            try clear c16
            try clear c16b0
            try clear c16b1
            try clear c16b2
            try clear p2
            obtain ⟨kq, x37_13, rfl, HA, HJ13, HO_3, HO_4, HB⟩ := hcut
            cases kq with
            | zero => exact absurd HA.out (by simp [geyserlaw07_PrecodeRows.j1])
            | succ kj13 =>
              have H := HA.out
              clear HA
              simp only [geyserlaw07_PrecodeRows.j1] at H
              by_cases c22 : x37_13 = true
              · subst c22
                have H1 : (some false) = some r := by rw [if_pos rfl] at H; exact H
                clear H
                have H := H1
                clear H1
                obtain rfl := Option.some.inj H
                go_wp2
                repeat (go_quiet (fail); try go_wp2)
                go_ret
                exact ⟨by first | rfl | (simp [errW_none, errW_some] <;> rfl) | (simp [*, errW_none, errW_some] <;> rfl), by repeat (first | (with_reducible first | exact HB.out | apply below_alloc | apply pw_below_drewN | apply below_drew1) | exact HB.out)⟩
              · replace c22 := Bool.eq_false_iff.mpr c22
                subst c22
                have H1 : (geyserlaw07_PrecodeRows.l0 kj13 t145 t149 (t149.length : Int) 0) = some r := by rw [if_neg (show ¬ (false = true) by decide)] at H; exact H
                clear H
                have H := H1
                clear H1
                have H' := Aside0.mk H
                clear H
                obtain ⟨Ao23, co23, eo23⟩ := Kd.S_slice HO_4.out
                subst eo23
                go_wp2
                repeat (go_quiet (fail); try go_wp2)
                go_loopg [40] kj13 (fun kq v40 w' => ∃ (x40_3 : Int), v40 = .int .i64 x40_3 ∧ Aside0 (geyserlaw07_PrecodeRows.l0 kq t145 t149 (t149.length : Int) x40_3 = some r) ∧ Aside0 (kq ≤ kj13) ∧ Aside0 (Kd.S (Kd.slice 5 (Kd.int .u8)) 35 w' w.heap.size (fun k_ => some k_ ≠ ((.slice Ao23 t149.length co23) : Value).ownBlock) v146 t145) ∧ Aside0 (Kd.S (Kd.slice 5 (Kd.int .u8)) 35 w' w.heap.size (fun k_ => some k_ ≠ (v146 : Value).ownBlock) (.slice Ao23 t149.length co23) t149) ∧ Aside0 (Below w.heap.size w w'))
                case atStart => exact ⟨(0), (by first | rfl | (simp; done) | (simp [*]; done)), H', ⟨Nat.le_refl _⟩, ⟨by (with_reducible repeat (first | apply Kd.S_alloc | apply Kd.S_drewN | apply Kd.S_drew)); exact HO_3.out⟩, ⟨by (with_reducible repeat (first | apply Kd.S_alloc | apply Kd.S_drewN | apply Kd.S_drew)); exact HO_4.out⟩, ⟨by repeat (first | (with_reducible first | exact HB.out | apply below_alloc | apply pw_below_drewN | apply below_drew1) | exact HB.out)⟩⟩
                case round =>
                  clear H'
                  try clear c1
                  try clear c2
                  try clear p2
                  try clear c3
                  try clear c7
                  try clear c7b0
                  try clear c8
                  try clear c9
                  try clear c9b0
                  try clear c9b1
                  try clear c9b2
                  try clear c14
                  try clear c16
                  try clear c16b0
                  try clear c16b1
                  try clear c16b2
                  try clear c22
                  try clear p2
                  obtain ⟨x40_3, rfl, HA, HK3, HO_3, HO_4, HB⟩ := hrel
                  cases gk with
                  | zero => exact absurd HA.out (by simp [geyserlaw07_PrecodeRows.l0])
                  | succ k3 =>
                    have H := HA.out
                    clear HA
                    simp only [geyserlaw07_PrecodeRows.l0] at H
                    by_cases c24 : x40_3 < (t149.length : Int)
                    · rw [if_pos c24] at H
                      have c24b0 : decide (x40_3 < (t149.length : Int)) = true := decide_eq_true c24
                      clear c24
                      by_cases c25 : 0 ≤ x40_3
                      · rw [if_pos c25] at H
                        have c25b0 : decide (0 ≤ x40_3) = true := decide_eq_true c25
                        clear c25
                        by_cases c26 : x40_3 < (t145.length : Int)
                        · rw [if_pos c26] at H
                          have c26b0 : decide (x40_3 < (t145.length : Int)) = true := decide_eq_true c26
                          clear c26
                          by_cases c27 : x40_3 < (t149.length : Int)
                          · rw [if_pos c27] at H
                            have c27b0 : decide (x40_3 < (t149.length : Int)) = true := decide_eq_true c27
                            clear c27
                            by_cases c28 : (strOfNums (rd_L1 t145 x40_3)).toList = (strOfNums (rd_L1 t149 x40_3)).toList
                            · rw [if_pos c28] at H
                              have c28b0 : ((strOfNums (rd_L1 t145 x40_3)).toList == (strOfNums (rd_L1 t149 x40_3)).toList) = true := beq_iff_eq.mpr c28
                              have c28b1 : ((strOfNums (rd_L1 t145 x40_3)).toList != (strOfNums (rd_L1 t149 x40_3)).toList) = false := bne_eq_false_iff_eq.mpr c28
                              clear c28
                              have H' := Aside0.mk H
                              clear H
                              obtain ⟨Ao29, co29, eo29⟩ := Kd.S_slice HO_3.out
                              subst eo29
                              have p153 : 0 ≤ (x40_3 : Int) := of_decide_eq_true (by first | (with_reducible assumption) | assumption)
                              have q153 : x40_3 < (t145.length : Int) := of_decide_eq_true (by first | (with_reducible assumption) | assumption)
                              obtain ⟨ad153, A153_0, c153_0, e153, hx153_0, hl153_0, hi153_0⟩ := at_L1 (Kd.S_reads' HO_3.out).2.2 x40_3 p153 q153
                              cases e153
                              obtain ⟨ce153, hce153, hMe153, hcc153⟩ := Kd.S_get HO_3.out [] x40_3 p153 (by first | exact q153 | exact of_decide_eq_true (by first | (with_reducible assumption) | assumption) | (have e_ := (Kd.S_reads' HO_3.out).1; omega))
                              obtain ⟨ve153_0, rfl, ge153_0⟩ := hMe153
                              have hv153_0 := hcc153 0 _ rfl
                              rw [Nat.add_zero, show ((Kd.slice 5 (Kd.int .u8))).sz = 1 from rfl, Nat.mul_one] at hv153_0
                              replace hv153_0 := Option.some.inj (hv153_0.symm.trans hx153_0)
                              rw [hv153_0] at ge153_0
                              have HL153_0 := Aside0.mk (show Kd.R (Kd.int .u8) 5 _ _ _ _ (rd_L1 t145 x40_3) from ge153_0)
                              clear hv153_0 ge153_0
                              clear hcc153 hce153
                              have HR153_0 := Aside0.mk hi153_0
                              have HC153_0 := Aside0.mk hl153_0
                              clear hi153_0 hl153_0
                              replace p153 := eq_true p153
                              replace q153 := eq_true q153
                              have hcv30 := Kd.C_string (P := Try.prog) (A := A153_0) (c := c153_0) Try.underlying35 Try.underlying5 Try.underlying9 (by repeat (first | (with_reducible exact HR153_0.out) | (with_reducible refine Kd.C_alloc ?_ _) | (with_reducible refine Kd.C_drewN ?_ _) | (with_reducible refine Kd.C_drew ?_) | exact HR153_0.out))
                              (try (have hcv30q := fun nq_ : Nat => Kd.C_string (P := Try.prog) (A := A153_0) (c := c153_0) Try.underlying35 Try.underlying5 Try.underlying9 (Kd.C_drewN HR153_0.out nq_)))
                              have p154 : 0 ≤ (x40_3 : Int) := of_decide_eq_true (by first | (with_reducible assumption) | assumption)
                              have q154 : x40_3 < (t149.length : Int) := of_decide_eq_true (by first | (with_reducible assumption) | assumption)
                              obtain ⟨ad154, A154_0, c154_0, e154, hx154_0, hl154_0, hi154_0⟩ := at_L1 (Kd.S_reads' HO_4.out).2.2 x40_3 p154 q154
                              cases e154
                              obtain ⟨ce154, hce154, hMe154, hcc154⟩ := Kd.S_get HO_4.out [] x40_3 p154 (by first | exact q154 | exact of_decide_eq_true (by first | (with_reducible assumption) | assumption) | (have e_ := (Kd.S_reads' HO_4.out).1; omega))
                              obtain ⟨ve154_0, rfl, ge154_0⟩ := hMe154
                              have hv154_0 := hcc154 0 _ rfl
                              rw [Nat.add_zero, show ((Kd.slice 5 (Kd.int .u8))).sz = 1 from rfl, Nat.mul_one] at hv154_0
                              replace hv154_0 := Option.some.inj (hv154_0.symm.trans hx154_0)
                              rw [hv154_0] at ge154_0
                              have HL154_0 := Aside0.mk (show Kd.R (Kd.int .u8) 5 _ _ _ _ (rd_L1 t149 x40_3) from ge154_0)
                              clear hv154_0 ge154_0
                              clear hcc154 hce154
                              have HR154_0 := Aside0.mk hi154_0
                              have HC154_0 := Aside0.mk hl154_0
                              clear hi154_0 hl154_0
                              replace p154 := eq_true p154
                              replace q154 := eq_true q154
                              have hcv31 := Kd.C_string (P := Try.prog) (A := A154_0) (c := c154_0) Try.underlying35 Try.underlying5 Try.underlying9 (by repeat (first | (with_reducible exact HR154_0.out) | (with_reducible refine Kd.C_alloc ?_ _) | (with_reducible refine Kd.C_drewN ?_ _) | (with_reducible refine Kd.C_drew ?_) | exact HR154_0.out))
                              (try (have hcv31q := fun nq_ : Nat => Kd.C_string (P := Try.prog) (A := A154_0) (c := c154_0) Try.underlying35 Try.underlying5 Try.underlying9 (Kd.C_drewN HR154_0.out nq_)))
                              go_wp2
                              repeat (go_quiet (fail); try go_wp2)
                              go_roundg k3
                              case measure => have := HJ4.out; have := HJ13.out; have := HK3.out; omega
                              case rel => exact ⟨(wrap64 (x40_3 + 1)), (by first | rfl | (simp; done) | (simp [*]; done)), H', ⟨by have := HJ4.out; have := HJ13.out; have := HK3.out; omega⟩, ⟨by (with_reducible repeat (first | apply Kd.S_alloc | apply Kd.S_drewN | apply Kd.S_drew)); exact HO_3.out⟩, ⟨by (with_reducible repeat (first | apply Kd.S_alloc | apply Kd.S_drewN | apply Kd.S_drew)); exact HO_4.out⟩, ⟨by repeat (first | (with_reducible first | exact HB.out | apply below_alloc | apply pw_below_drewN | apply below_drew1) | exact HB.out)⟩⟩
                            · rw [if_neg c28] at H
                              have c28b0 : ((strOfNums (rd_L1 t145 x40_3)).toList == (strOfNums (rd_L1 t149 x40_3)).toList) = false := beq_eq_false_iff_ne.mpr c28
                              have c28b1 : ((strOfNums (rd_L1 t145 x40_3)).toList != (strOfNums (rd_L1 t149 x40_3)).toList) = true := bne_iff_ne.mpr c28
                              obtain rfl := Option.some.inj H
                              obtain ⟨Ao32, co32, eo32⟩ := Kd.S_slice HO_3.out
                              subst eo32
                              have p153 : 0 ≤ (x40_3 : Int) := of_decide_eq_true (by first | (with_reducible assumption) | assumption)
                              have q153 : x40_3 < (t145.length : Int) := of_decide_eq_true (by first | (with_reducible assumption) | assumption)
                              obtain ⟨ad153, A153_0, c153_0, e153, hx153_0, hl153_0, hi153_0⟩ := at_L1 (Kd.S_reads' HO_3.out).2.2 x40_3 p153 q153
                              cases e153
                              obtain ⟨ce153, hce153, hMe153, hcc153⟩ := Kd.S_get HO_3.out [] x40_3 p153 (by first | exact q153 | exact of_decide_eq_true (by first | (with_reducible assumption) | assumption) | (have e_ := (Kd.S_reads' HO_3.out).1; omega))
                              obtain ⟨ve153_0, rfl, ge153_0⟩ := hMe153
                              have hv153_0 := hcc153 0 _ rfl
                              rw [Nat.add_zero, show ((Kd.slice 5 (Kd.int .u8))).sz = 1 from rfl, Nat.mul_one] at hv153_0
                              replace hv153_0 := Option.some.inj (hv153_0.symm.trans hx153_0)
                              rw [hv153_0] at ge153_0
                              have HL153_0 := Aside0.mk (show Kd.R (Kd.int .u8) 5 _ _ _ _ (rd_L1 t145 x40_3) from ge153_0)
                              clear hv153_0 ge153_0
                              clear hcc153 hce153
                              have HR153_0 := Aside0.mk hi153_0
                              have HC153_0 := Aside0.mk hl153_0
                              clear hi153_0 hl153_0
                              replace p153 := eq_true p153
                              replace q153 := eq_true q153
                              have hcv33 := Kd.C_string (P := Try.prog) (A := A153_0) (c := c153_0) Try.underlying35 Try.underlying5 Try.underlying9 (by repeat (first | (with_reducible exact HR153_0.out) | (with_reducible refine Kd.C_alloc ?_ _) | (with_reducible refine Kd.C_drewN ?_ _) | (with_reducible refine Kd.C_drew ?_) | exact HR153_0.out))
                              (try (have hcv33q := fun nq_ : Nat => Kd.C_string (P := Try.prog) (A := A153_0) (c := c153_0) Try.underlying35 Try.underlying5 Try.underlying9 (Kd.C_drewN HR153_0.out nq_)))
                              have p154 : 0 ≤ (x40_3 : Int) := of_decide_eq_true (by first | (with_reducible assumption) | assumption)
                              have q154 : x40_3 < (t149.length : Int) := of_decide_eq_true (by first | (with_reducible assumption) | assumption)
                              obtain ⟨ad154, A154_0, c154_0, e154, hx154_0, hl154_0, hi154_0⟩ := at_L1 (Kd.S_reads' HO_4.out).2.2 x40_3 p154 q154
                              cases e154
                              obtain ⟨ce154, hce154, hMe154, hcc154⟩ := Kd.S_get HO_4.out [] x40_3 p154 (by first | exact q154 | exact of_decide_eq_true (by first | (with_reducible assumption) | assumption) | (have e_ := (Kd.S_reads' HO_4.out).1; omega))
                              obtain ⟨ve154_0, rfl, ge154_0⟩ := hMe154
                              have hv154_0 := hcc154 0 _ rfl
                              rw [Nat.add_zero, show ((Kd.slice 5 (Kd.int .u8))).sz = 1 from rfl, Nat.mul_one] at hv154_0
                              replace hv154_0 := Option.some.inj (hv154_0.symm.trans hx154_0)
                              rw [hv154_0] at ge154_0
                              have HL154_0 := Aside0.mk (show Kd.R (Kd.int .u8) 5 _ _ _ _ (rd_L1 t149 x40_3) from ge154_0)
                              clear hv154_0 ge154_0
                              clear hcc154 hce154
                              have HR154_0 := Aside0.mk hi154_0
                              have HC154_0 := Aside0.mk hl154_0
                              clear hi154_0 hl154_0
                              replace p154 := eq_true p154
                              replace q154 := eq_true q154
                              have hcv34 := Kd.C_string (P := Try.prog) (A := A154_0) (c := c154_0) Try.underlying35 Try.underlying5 Try.underlying9 (by repeat (first | (with_reducible exact HR154_0.out) | (with_reducible refine Kd.C_alloc ?_ _) | (with_reducible refine Kd.C_drewN ?_ _) | (with_reducible refine Kd.C_drew ?_) | exact HR154_0.out))
                              (try (have hcv34q := fun nq_ : Nat => Kd.C_string (P := Try.prog) (A := A154_0) (c := c154_0) Try.underlying35 Try.underlying5 Try.underlying9 (Kd.C_drewN HR154_0.out nq_)))
                              go_wp2
                              repeat (go_quiet (fail); try go_wp2)
                              go_ret
                              exact ⟨by first | rfl | (simp [errW_none, errW_some] <;> rfl) | (simp [*, errW_none, errW_some] <;> rfl), by repeat (first | (with_reducible first | exact HB.out | apply below_alloc | apply pw_below_drewN | apply below_drew1) | exact HB.out)⟩
                          · rw [if_neg c27] at H
                            exact absurd H (by simp)
                        · rw [if_neg c26] at H
                          exact absurd H (by simp)
                      · rw [if_neg c25] at H
                        exact absurd H (by simp)
                    · rw [if_neg c24] at H
                      have c24b0 : decide (x40_3 < (t149.length : Int)) = false := decide_eq_false c24
                      clear c24
                      obtain rfl := Option.some.inj H
                      go_wp2
                      repeat (go_quiet (fail); try go_wp2)
                      go_ret
                      exact ⟨by first | rfl | (simp [errW_none, errW_some] <;> rfl) | (simp [*, errW_none, errW_some] <;> rfl), by repeat (first | (with_reducible first | exact HB.out | apply below_alloc | apply pw_below_drewN | apply below_drew1) | exact HB.out)⟩
  · replace c3 := Bool.eq_false_iff.mpr c3
    subst c3
    have H1 : (some false) = some r := by rw [if_neg (show ¬ (false = true) by decide)] at H; exact H
    clear H
    have H := H1
    clear H1
    obtain rfl := Option.some.inj H
    go_enter Try.func14, Try.ntmps14
    go_wp2_with (first | (go_at_call 46; (with_reducible refine (geyserlaw07_awake.calls  false _ A2.out).mono ?_); rintro e w' ⟨rfl, ⟨nd, rfl⟩⟩; (try first | exact ⟨rfl, _, World.drewN_drewN _ _ _⟩ | exact ⟨rfl, _, Eq.trans (World.drewN_drewN _ _ _) (congrArg (World.drewN _) (Nat.add_assoc _ _ _))⟩)))
    repeat (go_quiet (first | (go_at_call 46; (with_reducible refine (geyserlaw07_awake.calls  false _ A2.out).mono ?_); rintro e w' ⟨rfl, ⟨nd, rfl⟩⟩; (try first | exact ⟨rfl, _, World.drewN_drewN _ _ _⟩ | exact ⟨rfl, _, Eq.trans (World.drewN_drewN _ _ _) (congrArg (World.drewN _) (Nat.add_assoc _ _ _))⟩))); try go_wp2_with (first | (go_at_call 46; (with_reducible refine (geyserlaw07_awake.calls  false _ A2.out).mono ?_); rintro e w' ⟨rfl, ⟨nd, rfl⟩⟩; (try first | exact ⟨rfl, _, World.drewN_drewN _ _ _⟩ | exact ⟨rfl, _, Eq.trans (World.drewN_drewN _ _ _) (congrArg (World.drewN _) (Nat.add_assoc _ _ _))⟩))))
    go_ret
    exact ⟨by first | rfl | (simp [errW_none, errW_some] <;> rfl) | (simp [*, errW_none, errW_some] <;> rfl), by repeat (first | (with_reducible first | exact HB.out | apply below_alloc | apply pw_below_drewN | apply below_drew1) | exact HB.out)⟩

/-- THE ONE PURE STATEMENT of geyserlaw07_PrecodeRows: yours. -/
def geyserlaw07_PrecodeRows.Pure : Prop := ∀ (a0 : Int), (Lit.int .i64 a0).wf = true → ∃ k, geyserlaw07_PrecodeRows.f k a0 = some true
theorem geyserlaw07_PrecodeRows.walk (P : geyserlaw07_PrecodeRows.Pure) (a0 : Int) (w : World) (w0 : (Lit.int .i64 a0).wf = true) :
    Calls Try.prog 14 #[.int .i64 a0] w fun e w' => e = .returned (.bool true) ∧ Below w.heap.size w w' := by
  obtain ⟨k, h⟩ := P a0 w0
  refine (geyserlaw07_PrecodeRows.calls k a0 true w h).mono ?_
  rintro e w' ⟨rfl, hd⟩
  exact ⟨rfl, hd⟩

end Go.Proofs.Ytkheloahiepoiaa.QPrecodeRows
