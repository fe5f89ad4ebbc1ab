-- PRINTED BY print.sh 35421559b90ae4d0a3588c463048766b98c2df88dd9212a6774a882060cdf62d: not written by this session
import Derived.Test.YtkheloahiepoiaaPPeelRightsx0
import Derived.Test.YtkheloahiepoiaaPPeelRightsx1
namespace Go.Proofs.Ytkheloahiepoiaa.PPeelRights
open Go.RowKit Go.Proofs.YtkheloahiepoiaaW.PrintWords Go.Proofs.YtkheloahiepoiaaW.PrintLast Go.Proofs.YtkheloahiepoiaaW.PrintMore
attribute [local go_sem] max2_int min2_int max_two min_two max_three min_three max_four min_four   -- for this text's walks alone
set_option linter.unusedVariables false
set_option linter.unusedSimpArgs false

/-! ### geyserref03_Right: function 30 -/
mutual
def geyserref03_Right.j0 : Nat → List (List (S69)) → Int → Bool → Option (Bool)
  | 0, _, _, _ => none
  | k + 1, x0, x1, x19 => if x19 = true then (some false) else (geyserref03_Right.l0 k x0 x1 (x0.length : Int) 0)
def geyserref03_Right.l0 : Nat → List (List (S69)) → Int → Int → Int → Option (Bool)
  | 0, _, _, _, _ => none
  | k + 1, x0, x1, x21, x22 => if x22 < x21 then (if 0 ≤ x22 then (if x22 < (x0.length : Int) then (geyserref03_Right.l1 k x0 x1 x22 x21 x22 ((rd_L3 x0 x22).length : Int) 0) else (none)) else (none)) else (some true)
def geyserref03_Right.l1 : Nat → List (List (S69)) → Int → Int → Int → Int → Int → Int → Option (Bool)
  | 0, _, _, _, _, _, _, _ => none
  | k + 1, x0, x1, x5, x21, x22, x29, x30 => if x30 < x29 then (if 0 ≤ x5 then (if x5 < (x0.length : Int) then (if 0 ≤ x30 then (if x30 < ((rd_L3 x0 x5).length : Int) then (if ((rd_T69 (rd_L3 x0 x5) x30).f0) < 0 then (geyserref03_Right.j3 k x0 x1 x5 x30 x21 x22 x29 x30 true ((rd_T69 (rd_L3 x0 x5) x30).f0) ((rd_T69 (rd_L3 x0 x5) x30).f1)) else (if ((rd_T69 (rd_L3 x0 x5) x30).f0) ≥ x1 then (geyserref03_Right.j3 k x0 x1 x5 x30 x21 x22 x29 x30 true ((rd_T69 (rd_L3 x0 x5) x30).f0) ((rd_T69 (rd_L3 x0 x5) x30).f1)) else (geyserref03_Right.j3 k x0 x1 x5 x30 x21 x22 x29 x30 (((rd_T69 (rd_L3 x0 x5) x30).f1) == 0) ((rd_T69 (rd_L3 x0 x5) x30).f0) ((rd_T69 (rd_L3 x0 x5) x30).f1)))) else (none)) else (none)) else (none)) else (none)) else (geyserref03_Right.l0 k x0 x1 x21 (wrap64 (x22 + 1)))
def geyserref03_Right.j3 : Nat → List (List (S69)) → Int → Int → Int → Int → Int → Int → Int → Bool → Int → Int → Option (Bool)
  | 0, _, _, _, _, _, _, _, _, _, _, _ => none
  | k + 1, x0, x1, x5, x6, x21, x22, x29, x30, x53, x116000, x116001 => if x53 = true then (some false) else (geyserref03_Right.l2 k x0 x1 x5 x21 x22 x29 x30 x6 0 x116000 x116001)
def geyserref03_Right.l2 : Nat → List (List (S69)) → Int → Int → Int → Int → Int → Int → Int → Int → Int → Int → Option (Bool)
  | 0, _, _, _, _, _, _, _, _, _, _, _ => none
  | k + 1, x0, x1, x5, x21, x22, x29, x30, x54, x55, x116000, x116001 => if x55 < x54 then (if 0 ≤ x5 then (if x5 < (x0.length : Int) then (if 0 ≤ x55 then (if x55 < ((rd_L3 x0 x5).length : Int) then (if ((rd_T69 (rd_L3 x0 x5) x55).f0) = x116000 then (some false) else (geyserref03_Right.l2 k x0 x1 x5 x21 x22 x29 x30 x54 (wrap64 (x55 + 1)) x116000 x116001)) else (none)) else (none)) else (none)) else (none)) else (geyserref03_Right.l1 k x0 x1 x5 x21 x22 x29 (wrap64 (x30 + 1)))
end
def geyserref03_Right.f (k : Nat) (l0 : List (List (S69))) (a1 : Int) : Option (Bool) := if a1 < 0 then (geyserref03_Right.j0 k l0 a1 true) else (if a1 > 256 then (geyserref03_Right.j0 k l0 a1 true) else (geyserref03_Right.j0 k l0 a1 (decide ((l0.length : Int) > 1000))))
theorem geyserref03_Right.mono_l : ∀ k, (∀ y0 y1 y2, LeO (geyserref03_Right.j0 k y0 y1 y2) (geyserref03_Right.j0 (k + 1) y0 y1 y2)) ∧ (∀ y0 y1 y2 y3, LeO (geyserref03_Right.l0 k y0 y1 y2 y3) (geyserref03_Right.l0 (k + 1) y0 y1 y2 y3)) ∧ (∀ y0 y1 y2 y3 y4 y5 y6, LeO (geyserref03_Right.l1 k y0 y1 y2 y3 y4 y5 y6) (geyserref03_Right.l1 (k + 1) y0 y1 y2 y3 y4 y5 y6)) ∧ (∀ y0 y1 y2 y3 y4 y5 y6 y7 y8 y9 y10, LeO (geyserref03_Right.j3 k y0 y1 y2 y3 y4 y5 y6 y7 y8 y9 y10) (geyserref03_Right.j3 (k + 1) y0 y1 y2 y3 y4 y5 y6 y7 y8 y9 y10)) ∧ (∀ y0 y1 y2 y3 y4 y5 y6 y7 y8 y9 y10, LeO (geyserref03_Right.l2 k y0 y1 y2 y3 y4 y5 y6 y7 y8 y9 y10) (geyserref03_Right.l2 (k + 1) y0 y1 y2 y3 y4 y5 y6 y7 y8 y9 y10))
  | 0 => ⟨fun _ _ _ r h => by simp [geyserref03_Right.j0] at h, fun _ _ _ _ r h => by simp [geyserref03_Right.l0] at h, fun _ _ _ _ _ _ _ r h => by simp [geyserref03_Right.l1] at h, fun _ _ _ _ _ _ _ _ _ _ _ r h => by simp [geyserref03_Right.j3] at h, fun _ _ _ _ _ _ _ _ _ _ _ r h => by simp [geyserref03_Right.l2] at h⟩
  | k + 1 => by
    obtain ⟨ih0, ih1, ih2, ih3, ih4⟩ := geyserref03_Right.mono_l k
    refine ⟨?_, ?_, ?_, ?_, ?_⟩
    · intro y0 y1 y2
      unfold geyserref03_Right.j0
      repeat' first
      | (with_reducible exact ih0 _ _ _)
      | (with_reducible exact ih1 _ _ _ _)
      | (with_reducible exact ih2 _ _ _ _ _ _ _)
      | (with_reducible exact ih3 _ _ _ _ _ _ _ _ _ _ _)
      | (with_reducible exact ih4 _ _ _ _ _ _ _ _ _ _ _)
      | (with_reducible exact LeO.refl _)
      | (with_reducible exact LeO.none _)
      | (with_reducible refine LeO.ite ?_ ?_)
      | (with_reducible refine LeO.bind ?_ (fun _ => ?_))
      | exact ih0 _ _ _
      | exact ih1 _ _ _ _
      | exact ih2 _ _ _ _ _ _ _
      | exact ih3 _ _ _ _ _ _ _ _ _ _ _
      | exact ih4 _ _ _ _ _ _ _ _ _ _ _
      | exact LeO.none _
      | refine LeO.ite ?_ ?_
      | refine LeO.bind ?_ (fun _ => ?_)
    · intro y0 y1 y2 y3
      unfold geyserref03_Right.l0
      repeat' first
      | (with_reducible exact ih0 _ _ _)
      | (with_reducible exact ih1 _ _ _ _)
      | (with_reducible exact ih2 _ _ _ _ _ _ _)
      | (with_reducible exact ih3 _ _ _ _ _ _ _ _ _ _ _)
      | (with_reducible exact ih4 _ _ _ _ _ _ _ _ _ _ _)
      | (with_reducible exact LeO.refl _)
      | (with_reducible exact LeO.none _)
      | (with_reducible refine LeO.ite ?_ ?_)
      | (with_reducible refine LeO.bind ?_ (fun _ => ?_))
      | exact ih0 _ _ _
      | exact ih1 _ _ _ _
      | exact ih2 _ _ _ _ _ _ _
      | exact ih3 _ _ _ _ _ _ _ _ _ _ _
      | exact ih4 _ _ _ _ _ _ _ _ _ _ _
      | exact LeO.none _
      | refine LeO.ite ?_ ?_
      | refine LeO.bind ?_ (fun _ => ?_)
    · intro y0 y1 y2 y3 y4 y5 y6
      unfold geyserref03_Right.l1
      repeat' first
      | (with_reducible exact ih0 _ _ _)
      | (with_reducible exact ih1 _ _ _ _)
      | (with_reducible exact ih2 _ _ _ _ _ _ _)
      | (with_reducible exact ih3 _ _ _ _ _ _ _ _ _ _ _)
      | (with_reducible exact ih4 _ _ _ _ _ _ _ _ _ _ _)
      | (with_reducible exact LeO.refl _)
      | (with_reducible exact LeO.none _)
      | (with_reducible refine LeO.ite ?_ ?_)
      | (with_reducible refine LeO.bind ?_ (fun _ => ?_))
      | exact ih0 _ _ _
      | exact ih1 _ _ _ _
      | exact ih2 _ _ _ _ _ _ _
      | exact ih3 _ _ _ _ _ _ _ _ _ _ _
      | exact ih4 _ _ _ _ _ _ _ _ _ _ _
      | exact LeO.none _
      | refine LeO.ite ?_ ?_
      | refine LeO.bind ?_ (fun _ => ?_)
    · intro y0 y1 y2 y3 y4 y5 y6 y7 y8 y9 y10
      unfold geyserref03_Right.j3
      repeat' first
      | (with_reducible exact ih0 _ _ _)
      | (with_reducible exact ih1 _ _ _ _)
      | (with_reducible exact ih2 _ _ _ _ _ _ _)
      | (with_reducible exact ih3 _ _ _ _ _ _ _ _ _ _ _)
      | (with_reducible exact ih4 _ _ _ _ _ _ _ _ _ _ _)
      | (with_reducible exact LeO.refl _)
      | (with_reducible exact LeO.none _)
      | (with_reducible refine LeO.ite ?_ ?_)
      | (with_reducible refine LeO.bind ?_ (fun _ => ?_))
      | exact ih0 _ _ _
      | exact ih1 _ _ _ _
      | exact ih2 _ _ _ _ _ _ _
      | exact ih3 _ _ _ _ _ _ _ _ _ _ _
      | exact ih4 _ _ _ _ _ _ _ _ _ _ _
      | exact LeO.none _
      | refine LeO.ite ?_ ?_
      | refine LeO.bind ?_ (fun _ => ?_)
    · intro y0 y1 y2 y3 y4 y5 y6 y7 y8 y9 y10
      unfold geyserref03_Right.l2
      repeat' first
      | (with_reducible exact ih0 _ _ _)
      | (with_reducible exact ih1 _ _ _ _)
      | (with_reducible exact ih2 _ _ _ _ _ _ _)
      | (with_reducible exact ih3 _ _ _ _ _ _ _ _ _ _ _)
      | (with_reducible exact ih4 _ _ _ _ _ _ _ _ _ _ _)
      | (with_reducible exact LeO.refl _)
      | (with_reducible exact LeO.none _)
      | (with_reducible refine LeO.ite ?_ ?_)
      | (with_reducible refine LeO.bind ?_ (fun _ => ?_))
      | exact ih0 _ _ _
      | exact ih1 _ _ _ _
      | exact ih2 _ _ _ _ _ _ _
      | exact ih3 _ _ _ _ _ _ _ _ _ _ _
      | exact ih4 _ _ _ _ _ _ _ _ _ _ _
      | exact LeO.none _
      | refine LeO.ite ?_ ?_
      | refine LeO.bind ?_ (fun _ => ?_)
theorem geyserref03_Right.mono : ∀ a0 a1 k, LeO (geyserref03_Right.f k a0 a1) (geyserref03_Right.f (k + 1) a0 a1) := by
  intro a0 a1 k
  obtain ⟨ih0, ih1, ih2, ih3, ih4⟩ := geyserref03_Right.mono_l k
  unfold geyserref03_Right.f
  repeat' first
      | (with_reducible exact ih0 _ _ _)
      | (with_reducible exact ih1 _ _ _ _)
      | (with_reducible exact ih2 _ _ _ _ _ _ _)
      | (with_reducible exact ih3 _ _ _ _ _ _ _ _ _ _ _)
      | (with_reducible exact ih4 _ _ _ _ _ _ _ _ _ _ _)
      | (with_reducible exact LeO.refl _)
      | (with_reducible exact LeO.none _)
      | (with_reducible refine LeO.ite ?_ ?_)
      | (with_reducible refine LeO.bind ?_ (fun _ => ?_))
      | exact ih0 _ _ _
      | exact ih1 _ _ _ _
      | exact ih2 _ _ _ _ _ _ _
      | exact ih3 _ _ _ _ _ _ _ _ _ _ _
      | exact ih4 _ _ _ _ _ _ _ _ _ _ _
      | exact LeO.none _
      | refine LeO.ite ?_ ?_
      | refine LeO.bind ?_ (fun _ => ?_)
set_option maxHeartbeats 8000000 in
set_option maxRecDepth 100000 in
theorem geyserref03_Right.calls (k : Nat) (A0 : Option Addr) (c0 : Nat) (l0 : List (List (S69))) (a1 : Int) (r : Bool) (w : World) (hr0 : Kd.C (Kd.slice 69 k69) w A0 l0.length l0) (hc0 : l0.length ≤ c0) (h : geyserref03_Right.f k l0 a1 = some r) :
    Calls Try.prog 30 #[.slice A0 l0.length c0, .int .i64 a1] w fun e w' => e = .returned (.bool r) ∧ Below w.heap.size w w' := by
  have hu69 := Try.underlying69
  have HR0 := Aside0.mk hr0
  have HC0 := Aside0.mk hc0
  clear hr0 hc0
  have HB := Aside0.mk (Below.refl w.heap.size w)
  have H : (if a1 < 0 then (geyserref03_Right.j0 k l0 a1 true) else (if a1 > 256 then (geyserref03_Right.j0 k l0 a1 true) else (geyserref03_Right.j0 k l0 a1 (decide ((l0.length : Int) > 1000))))) = some r := h
  clear h
  have HC3 := Aside0.mk H
  clear H
  go_enter Try.func30, Try.ntmps30
  go_upto_region 1 with (fail)
  repeat (go_quiet (fail); go_upto_region 1 with (fail))
  go_cut [19] (fun v19 wc => ∃ (kq : Nat) (x19_2 : Bool), v19 = .bool x19_2 ∧ Aside0 (geyserref03_Right.j0 kq l0 a1 x19_2 = some r) ∧ Aside0 (kq ≤ k) ∧ Aside0 (Below w.heap.size w wc))
  case first =>
    have H := HC3.out
    clear HC3
    by_cases c4 : a1 < 0
    · rw [if_pos c4] at H
      have c4b0 : decide (a1 < 0) = true := decide_eq_true c4
      clear c4
      (first | rw [c4b0] | (simp only [i64_w, i32_w]; rw [c4b0]) | skip)
      have H' := Aside0.mk H
      clear H
      go_wp2
      repeat (go_quiet (fail); try go_wp2)
      go_meet
      case rel => exact ⟨_, (true), (by first | rfl | (simp; done) | (simp [*]; done)), H', ⟨by first | omega | exact Nat.le_refl _⟩, ⟨by repeat (first | (with_reducible first | exact HB.out | apply below_alloc | apply pw_below_drewN | apply below_drew1) | exact HB.out)⟩⟩
    · rw [if_neg c4] at H
      have c4b0 : decide (a1 < 0) = false := decide_eq_false c4
      clear c4
      (first | rw [c4b0] | (simp only [i64_w, i32_w]; rw [c4b0]) | skip)
      by_cases c5 : a1 > 256
      · rw [if_pos c5] at H
        have c5b0 : decide (256 < a1) = true := decide_eq_true c5
        clear c5
        have H' := Aside0.mk H
        clear H
        go_wp2
        repeat (go_quiet (fail); try go_wp2)
        go_meet
        case rel => exact ⟨_, (true), (by first | rfl | (simp; done) | (simp [*]; done)), H', ⟨by first | omega | exact Nat.le_refl _⟩, ⟨by repeat (first | (with_reducible first | exact HB.out | apply below_alloc | apply pw_below_drewN | apply below_drew1) | exact HB.out)⟩⟩
      · rw [if_neg c5] at H
        have c5b0 : decide (256 < a1) = false := decide_eq_false c5
        clear c5
        have H' := Aside0.mk H
        clear H
        go_wp2
        repeat (go_quiet (fail); try go_wp2)
        go_meet
        case rel => exact ⟨_, (decide ((l0.length : Int) > 1000)), (by first | rfl | (simp; done) | (simp [*]; done)), H', ⟨by first | omega | exact Nat.le_refl _⟩, ⟨by repeat (first | (with_reducible first | exact HB.out | apply below_alloc | apply pw_below_drewN | apply below_drew1) | exact HB.out)⟩⟩
  case rest =>
    clear HC3
    try clear p2
    try clear c3
    try clear c4
    try clear c4b0
    try clear c5
    try clear c5b0
    obtain ⟨kq, x19_2, rfl, HA, HJ2, HB⟩ := hcut
    cases kq with
    | zero => exact absurd HA.out (by simp [geyserref03_Right.j0])
    | succ kj2 =>
      have H := HA.out
      clear HA
      simp only [geyserref03_Right.j0] at H
      by_cases c6 : x19_2 = true
      · subst c6
        have H1 : (some false) = some r := by rw [if_pos rfl] at H; exact H
        clear H
        have H := H1
        clear H1
        obtain rfl := Option.some.inj H
        go_wp2
        repeat (go_quiet (fail); try go_wp2)
        go_ret
        exact ⟨by first | rfl | (simp [errW_none, errW_some] <;> rfl) | (simp [*, errW_none, errW_some] <;> rfl), by repeat (first | (with_reducible first | exact HB.out | apply below_alloc | apply pw_below_drewN | apply below_drew1) | exact HB.out)⟩
      · replace c6 := Bool.eq_false_iff.mpr c6
        subst c6
        have H1 : (geyserref03_Right.l0 kj2 l0 a1 (l0.length : Int) 0) = some r := by rw [if_neg (show ¬ (false = true) by decide)] at H; exact H
        clear H
        have H := H1
        clear H1
        have H' := Aside0.mk H
        clear H
        go_wp2
        repeat (go_quiet (fail); try go_wp2)
        go_loopg [22] kj2 (fun kq v22 w' => ∃ (x22_2 : Int), v22 = .int .i64 x22_2 ∧ Aside0 (geyserref03_Right.l0 kq l0 a1 (l0.length : Int) x22_2 = some r) ∧ Aside0 (kq ≤ kj2) ∧ Aside0 (Below w.heap.size w w'))
        case atStart => exact ⟨(0), (by first | rfl | (simp; done) | (simp [*]; done)), H', ⟨Nat.le_refl _⟩, ⟨by repeat (first | (with_reducible first | exact HB.out | apply below_alloc | apply pw_below_drewN | apply below_drew1) | exact HB.out)⟩⟩
        case round =>
          clear H'
          try clear p2
          try clear c3
          try clear c4
          try clear c4b0
          try clear c5
          try clear c5b0
          try clear c6
          try clear p2
          obtain ⟨x22_2, rfl, HA, HK2, HB⟩ := hrel
          cases gk with
          | zero => exact absurd HA.out (by simp [geyserref03_Right.l0])
          | succ k2 =>
            have H := HA.out
            clear HA
            simp only [geyserref03_Right.l0] at H
            by_cases c7 : x22_2 < (l0.length : Int)
            · rw [if_pos c7] at H
              have c7b0 : decide (x22_2 < (l0.length : Int)) = true := decide_eq_true c7
              clear c7
              by_cases c8 : 0 ≤ x22_2
              · rw [if_pos c8] at H
                have c8b0 : decide (0 ≤ x22_2) = true := decide_eq_true c8
                clear c8
                by_cases c9 : x22_2 < (l0.length : Int)
                · rw [if_pos c9] at H
                  have c9b0 : decide (x22_2 < (l0.length : Int)) = true := decide_eq_true c9
                  clear c9
                  have H' := Aside0.mk H
                  clear H
                  have p112 : 0 ≤ (x22_2 : Int) := of_decide_eq_true (by first | (with_reducible assumption) | assumption)
                  have q112 : x22_2 < (l0.length : Int) := of_decide_eq_true (by first | (with_reducible assumption) | assumption)
                  obtain ⟨ad112, A112_0, c112_0, e112, hx112_0, hl112_0, hi112_0⟩ := at_L3 HR0.out x22_2 p112 q112
                  cases e112
                  replace hx112_0 := (HB.out.cell (World.block_lt_of_cell? w _ hx112_0)).trans hx112_0
                  have HR112_0 := Aside0.mk hi112_0
                  have HC112_0 := Aside0.mk hl112_0
                  clear hi112_0 hl112_0
                  replace p112 := eq_true p112
                  replace q112 := eq_true q112
                  go_wp2
                  repeat (go_quiet (fail); try go_wp2)
                  go_loopg [30] k2 (fun kq v30 w' => ∃ (x30_3 : Int), v30 = .int .i64 x30_3 ∧ Aside0 (geyserref03_Right.l1 kq l0 a1 x22_2 (l0.length : Int) x22_2 ((rd_L3 l0 x22_2).length : Int) x30_3 = some r) ∧ Aside0 (kq ≤ k2) ∧ Aside0 (Below w.heap.size w w'))
                  case atStart => exact ⟨(0), (by first | rfl | (simp; done) | (simp [*]; done)), H', ⟨Nat.le_refl _⟩, ⟨by repeat (first | (with_reducible first | exact HB.out | apply below_alloc | apply pw_below_drewN | apply below_drew1) | exact HB.out)⟩⟩
                  case round =>
                    clear H'
                    try clear c1
                    try clear p1
                    try clear q1
                    try clear hx1
                    try clear p2
                    try clear c3
                    try clear c4
                    try clear c4b0
                    try clear c5
                    try clear c5b0
                    try clear c6
                    try clear c7
                    try clear c7b0
                    try clear c8
                    try clear c8b0
                    try clear c9
                    try clear c9b0
                    try clear hx112_0
                    try clear p112
                    try clear p2
                    try clear q112
                    obtain ⟨x30_3, rfl, HA, HK3, HB⟩ := hrel
                    cases gk with
                    | zero => exact absurd HA.out (by simp [geyserref03_Right.l1])
                    | succ k3 =>
                      have H := HA.out
                      clear HA
                      simp only [geyserref03_Right.l1] at H
                      by_cases c10 : x30_3 < ((rd_L3 l0 x22_2).length : Int)
                      · rw [if_pos c10] at H
                        have c10b0 : decide (x30_3 < ((rd_L3 l0 x22_2).length : Int)) = true := decide_eq_true c10
                        clear c10
                        by_cases c11 : 0 ≤ x22_2
                        · rw [if_pos c11] at H
                          have c11b0 : decide (0 ≤ x22_2) = true := decide_eq_true c11
                          clear c11
                          by_cases c12 : x22_2 < (l0.length : Int)
                          · rw [if_pos c12] at H
                            have c12b0 : decide (x22_2 < (l0.length : Int)) = true := decide_eq_true c12
                            clear c12
                            by_cases c13 : 0 ≤ x30_3
                            · rw [if_pos c13] at H
                              have c13b0 : decide (0 ≤ x30_3) = true := decide_eq_true c13
                              clear c13
                              by_cases c14 : x30_3 < ((rd_L3 l0 x22_2).length : Int)
                              · rw [if_pos c14] at H
                                have c14b0 : decide (x30_3 < ((rd_L3 l0 x22_2).length : Int)) = true := decide_eq_true c14
                                clear c14
                                have HC15 := Aside0.mk H
                                clear H
                                have p113 : 0 ≤ (x22_2 : Int) := of_decide_eq_true (by first | (with_reducible assumption) | assumption)
                                have q113 : x22_2 < (l0.length : Int) := of_decide_eq_true (by first | (with_reducible assumption) | assumption)
                                obtain ⟨ad113, A113_0, c113_0, e113, hx113_0, hl113_0, hi113_0⟩ := at_L3 HR0.out x22_2 p113 q113
                                obtain rfl : ad112 = ad113 := (by injection e113)
                                replace hx113_0 := (HB.out.cell (World.block_lt_of_cell? w _ hx113_0)).trans hx113_0
                                have HR113_0 := Aside0.mk hi113_0
                                have HC113_0 := Aside0.mk hl113_0
                                clear hi113_0 hl113_0
                                replace p113 := eq_true p113
                                replace q113 := eq_true q113
                                have p114 : 0 ≤ (x30_3 : Int) := of_decide_eq_true (by first | (with_reducible assumption) | assumption)
                                have q114 : x30_3 < ((rd_L3 l0 x22_2).length : Int) := of_decide_eq_true (by first | (with_reducible assumption) | assumption)
                                obtain ⟨ad114, e114, hx114_0, hx114_1⟩ := at_T69 HR113_0.out x30_3 p114 q114
                                cases e114
                                replace hx114_0 := (HB.out.cell (World.block_lt_of_cell? w _ hx114_0)).trans hx114_0
                                replace hx114_1 := (HB.out.cell (World.block_lt_of_cell? w _ hx114_1)).trans hx114_1
                                replace p114 := eq_true p114
                                replace q114 := eq_true q114
                                go_upto_region 10 with (first | ((with_reducible refine gate_dst (N := 7) rfl ?_); (try (refine gate_guard (by rfl) ?_; dsimp only)); refine box_event ?hg (N := 7) ?hd (cs := #[.int .i64 0, .int .u8 0]) (t := 69) ?hr ?_; (case hd => rfl); (case hg => rfl); (case hr => first | (go_simp; done) | (go_simp; rfl)); intro gb115 hg w16 hbox hb; have n0_ := Aside0.mk (below_step (by repeat (first | (with_reducible first | exact HB.out | apply below_alloc | apply pw_below_drewN | apply below_drew1) | exact HB.out)) hb); have n1_ := Aside0.mk (hbox); have n2_ := Aside0.mk ((by rw [hg]; exact (below_size (by repeat (first | (with_reducible first | exact HB.out | apply below_alloc | apply pw_below_drewN | apply below_drew1) | exact HB.out))) : w.heap.size ≤ gb115)); have n3_ := Aside0.mk ((by rw [hg]; exact (below_size (by repeat (first | (with_reducible first | exact HB.out | apply below_alloc | apply pw_below_drewN | apply below_drew1) | exact HB.out))) : w.heap.size ≤ gb115)); clear HB; have HB := n0_; have BK115 := n1_; have GW115 := n2_; have GE115 := n3_; clear n0_ n1_ n2_ n3_; clear hb hbox hg; have hcz17_0 : w16.cell? ⟨gb115, 0, none⟩ = some (.int .i64 0) := (blk_cell BK115.out 0).trans rfl; have hcz17_1 : w16.cell? ⟨gb115, 1, none⟩ = some (.int .u8 0) := (blk_cell BK115.out 1).trans rfl; have hfz17_0 := blk_frozen BK115.out 0; have hfz17_1 := blk_frozen BK115.out 1))
                                repeat (go_quiet (first | ((with_reducible refine gate_dst (N := 7) rfl ?_); (try (refine gate_guard (by rfl) ?_; dsimp only)); refine box_event ?hg (N := 7) ?hd (cs := #[.int .i64 0, .int .u8 0]) (t := 69) ?hr ?_; (case hd => rfl); (case hg => rfl); (case hr => first | (go_simp; done) | (go_simp; rfl)); intro gb115 hg w16 hbox hb; have n0_ := Aside0.mk (below_step (by repeat (first | (with_reducible first | exact HB.out | apply below_alloc | apply pw_below_drewN | apply below_drew1) | exact HB.out)) hb); have n1_ := Aside0.mk (hbox); have n2_ := Aside0.mk ((by rw [hg]; exact (below_size (by repeat (first | (with_reducible first | exact HB.out | apply below_alloc | apply pw_below_drewN | apply below_drew1) | exact HB.out))) : w.heap.size ≤ gb115)); have n3_ := Aside0.mk ((by rw [hg]; exact (below_size (by repeat (first | (with_reducible first | exact HB.out | apply below_alloc | apply pw_below_drewN | apply below_drew1) | exact HB.out))) : w.heap.size ≤ gb115)); clear HB; have HB := n0_; have BK115 := n1_; have GW115 := n2_; have GE115 := n3_; clear n0_ n1_ n2_ n3_; clear hb hbox hg; have hcz17_0 : w16.cell? ⟨gb115, 0, none⟩ = some (.int .i64 0) := (blk_cell BK115.out 0).trans rfl; have hcz17_1 : w16.cell? ⟨gb115, 1, none⟩ = some (.int .u8 0) := (blk_cell BK115.out 1).trans rfl; have hfz17_0 := blk_frozen BK115.out 0; have hfz17_1 := blk_frozen BK115.out 1)); go_upto_region 10 with (first | ((with_reducible refine gate_dst (N := 7) rfl ?_); (try (refine gate_guard (by rfl) ?_; dsimp only)); refine box_event ?hg (N := 7) ?hd (cs := #[.int .i64 0, .int .u8 0]) (t := 69) ?hr ?_; (case hd => rfl); (case hg => rfl); (case hr => first | (go_simp; done) | (go_simp; rfl)); intro gb115 hg w16 hbox hb; have n0_ := Aside0.mk (below_step (by repeat (first | (with_reducible first | exact HB.out | apply below_alloc | apply pw_below_drewN | apply below_drew1) | exact HB.out)) hb); have n1_ := Aside0.mk (hbox); have n2_ := Aside0.mk ((by rw [hg]; exact (below_size (by repeat (first | (with_reducible first | exact HB.out | apply below_alloc | apply pw_below_drewN | apply below_drew1) | exact HB.out))) : w.heap.size ≤ gb115)); have n3_ := Aside0.mk ((by rw [hg]; exact (below_size (by repeat (first | (with_reducible first | exact HB.out | apply below_alloc | apply pw_below_drewN | apply below_drew1) | exact HB.out))) : w.heap.size ≤ gb115)); clear HB; have HB := n0_; have BK115 := n1_; have GW115 := n2_; have GE115 := n3_; clear n0_ n1_ n2_ n3_; clear hb hbox hg; have hcz17_0 : w16.cell? ⟨gb115, 0, none⟩ = some (.int .i64 0) := (blk_cell BK115.out 0).trans rfl; have hcz17_1 : w16.cell? ⟨gb115, 1, none⟩ = some (.int .u8 0) := (blk_cell BK115.out 1).trans rfl; have hfz17_0 := blk_frozen BK115.out 0; have hfz17_1 := blk_frozen BK115.out 1)))
                                (try simp only [Act.put, List.setIfInBounds_toArray, List.set_cons_zero, List.set_cons_succ])
                                go_cut [53] (fun v53 wc => ∃ (kq : Nat) (x53_14 : Bool), v53 = .bool x53_14 ∧ Aside0 (geyserref03_Right.j3 kq l0 a1 x22_2 x30_3 (l0.length : Int) x22_2 ((rd_L3 l0 x22_2).length : Int) x30_3 x53_14 ((rd_T69 (rd_L3 l0 x22_2) x30_3).f0) ((rd_T69 (rd_L3 l0 x22_2) x30_3).f1) = some r) ∧ Aside0 (kq ≤ k3) ∧ Aside0 (wc.heap[gb115]? = some (.cells #[.int .i64 ((rd_T69 (rd_L3 l0 x22_2) x30_3).f0), .int .u8 ((rd_T69 (rd_L3 l0 x22_2) x30_3).f1)] 69 (0, 0))) ∧ Aside0 (Below w.heap.size w wc))
                                case first =>
                                  have H := HC15.out
                                  clear HC15
                                  by_cases c18 : ((rd_T69 (rd_L3 l0 x22_2) x30_3).f0) < 0
                                  · rw [if_pos c18] at H
                                    have c18b0 : decide (((rd_T69 (rd_L3 l0 x22_2) x30_3).f0) < 0) = true := decide_eq_true c18
                                    clear c18
                                    (first | rw [c18b0] | (simp only [i64_w, i32_w]; rw [c18b0]) | skip)
                                    have H' := Aside0.mk H
                                    clear H
                                    have hcz19_0 : w16.cell? ⟨gb115, 0, none⟩ = some (.int .i64 0) := (blk_cell BK115.out 0).trans rfl
                                    have hcz19_1 : w16.cell? ⟨gb115, 1, none⟩ = some (.int .u8 0) := (blk_cell BK115.out 1).trans rfl
                                    have hfz19_0 := blk_frozen BK115.out 0
                                    have hfz19_1 := blk_frozen BK115.out 1
                                    go_wp2
                                    repeat (go_quiet (fail); try go_wp2)
                                    go_meet
                                    case rel => exact ⟨_, (true), (by first | rfl | (simp; done) | (simp [*]; done)), H', ⟨by have := HJ2.out; have := HK2.out; have := HK3.out; first | omega | exact Nat.le_refl _⟩, ⟨by (with_reducible repeat (first | refine blk_drewN ?_ _ | refine blk_drew ?_ | refine blk_alloc ?_ _)); refine blk_put (cs := #[.int .i64 ((rd_T69 (rd_L3 l0 x22_2) x30_3).f0), .int .u8 0]) ?_ 1 _ rfl; (with_reducible repeat (first | refine blk_drewN ?_ _ | refine blk_drew ?_ | refine blk_alloc ?_ _)); refine blk_put (cs := #[.int .i64 0, .int .u8 0]) ?_ 0 _ rfl; (with_reducible repeat (first | refine blk_drewN ?_ _ | refine blk_drew ?_ | refine blk_alloc ?_ _)); exact BK115.out⟩, ⟨by repeat (first | (with_reducible first | exact HB.out | apply below_alloc | apply pw_below_drewN | apply below_drew1 | refine below_set ?_ GE115.out) | exact HB.out)⟩⟩
                                  · rw [if_neg c18] at H
                                    have c18b0 : decide (((rd_T69 (rd_L3 l0 x22_2) x30_3).f0) < 0) = false := decide_eq_false c18
                                    clear c18
                                    (first | rw [c18b0] | (simp only [i64_w, i32_w]; rw [c18b0]) | skip)
                                    by_cases c20 : ((rd_T69 (rd_L3 l0 x22_2) x30_3).f0) ≥ a1
                                    · rw [if_pos c20] at H
                                      have c20b0 : decide (a1 ≤ ((rd_T69 (rd_L3 l0 x22_2) x30_3).f0)) = true := decide_eq_true c20
                                      clear c20
                                      have H' := Aside0.mk H
                                      clear H
                                      have hcz21_0 : w16.cell? ⟨gb115, 0, none⟩ = some (.int .i64 0) := (blk_cell BK115.out 0).trans rfl
                                      have hcz21_1 : w16.cell? ⟨gb115, 1, none⟩ = some (.int .u8 0) := (blk_cell BK115.out 1).trans rfl
                                      have hfz21_0 := blk_frozen BK115.out 0
                                      have hfz21_1 := blk_frozen BK115.out 1
                                      go_wp2
                                      repeat (go_quiet (fail); try go_wp2)
                                      go_meet
                                      case rel => exact ⟨_, (true), (by first | rfl | (simp; done) | (simp [*]; done)), H', ⟨by have := HJ2.out; have := HK2.out; have := HK3.out; first | omega | exact Nat.le_refl _⟩, ⟨by (with_reducible repeat (first | refine blk_drewN ?_ _ | refine blk_drew ?_ | refine blk_alloc ?_ _)); refine blk_put (cs := #[.int .i64 ((rd_T69 (rd_L3 l0 x22_2) x30_3).f0), .int .u8 0]) ?_ 1 _ rfl; (with_reducible repeat (first | refine blk_drewN ?_ _ | refine blk_drew ?_ | refine blk_alloc ?_ _)); refine blk_put (cs := #[.int .i64 0, .int .u8 0]) ?_ 0 _ rfl; (with_reducible repeat (first | refine blk_drewN ?_ _ | refine blk_drew ?_ | refine blk_alloc ?_ _)); exact BK115.out⟩, ⟨by repeat (first | (with_reducible first | exact HB.out | apply below_alloc | apply pw_below_drewN | apply below_drew1 | refine below_set ?_ GE115.out) | exact HB.out)⟩⟩
                                    · rw [if_neg c20] at H
                                      have c20b0 : decide (a1 ≤ ((rd_T69 (rd_L3 l0 x22_2) x30_3).f0)) = false := decide_eq_false c20
                                      clear c20
                                      have H' := Aside0.mk H
                                      clear H
                                      have hcz22_0 : w16.cell? ⟨gb115, 0, none⟩ = some (.int .i64 0) := (blk_cell BK115.out 0).trans rfl
                                      have hcz22_1 : w16.cell? ⟨gb115, 1, none⟩ = some (.int .u8 0) := (blk_cell BK115.out 1).trans rfl
                                      have hfz22_0 := blk_frozen BK115.out 0
                                      have hfz22_1 := blk_frozen BK115.out 1
                                      go_wp2
                                      repeat (go_quiet (fail); try go_wp2)
                                      go_meet
                                      case rel => exact ⟨_, ((((rd_T69 (rd_L3 l0 x22_2) x30_3).f1) == 0)), (by first | rfl | (simp; done) | (simp [*]; done)), H', ⟨by have := HJ2.out; have := HK2.out; have := HK3.out; first | omega | exact Nat.le_refl _⟩, ⟨by (with_reducible repeat (first | refine blk_drewN ?_ _ | refine blk_drew ?_ | refine blk_alloc ?_ _)); refine blk_put (cs := #[.int .i64 ((rd_T69 (rd_L3 l0 x22_2) x30_3).f0), .int .u8 0]) ?_ 1 _ rfl; (with_reducible repeat (first | refine blk_drewN ?_ _ | refine blk_drew ?_ | refine blk_alloc ?_ _)); refine blk_put (cs := #[.int .i64 0, .int .u8 0]) ?_ 0 _ rfl; (with_reducible repeat (first | refine blk_drewN ?_ _ | refine blk_drew ?_ | refine blk_alloc ?_ _)); exact BK115.out⟩, ⟨by repeat (first | (with_reducible first | exact HB.out | apply below_alloc | apply pw_below_drewN | apply below_drew1 | refine below_set ?_ GE115.out) | exact HB.out)⟩⟩
                                case rest =>
                                  clear HC15
                                  try clear c1
                                  try clear p1
                                  try clear q1
                                  try clear hx1
                                  try clear c2
                                  try clear p2
                                  try clear c3
                                  try clear c4
                                  try clear c4b0
                                  try clear c5
                                  try clear c5b0
                                  try clear c6
                                  try clear c7
                                  try clear c7b0
                                  try clear c8
                                  try clear c8b0
                                  try clear c9
                                  try clear c9b0
                                  try clear c10
                                  try clear c10b0
                                  try clear c11
                                  try clear c11b0
                                  try clear p11
                                  try clear q11
                                  try clear hx11
                                  try clear c12
                                  try clear c12b0
                                  try clear c13
                                  try clear c13b0
                                  try clear c14
                                  try clear c14b0
                                  try clear c18
                                  try clear c18b0
                                  try clear c20
                                  try clear c20b0
                                  try clear hcz17_0
                                  try clear hcz17_1
                                  try clear hcz19_0
                                  try clear hcz19_1
                                  try clear hcz21_0
                                  try clear hcz21_1
                                  try clear hcz22_0
                                  try clear hcz22_1
                                  try clear hfz17_0
                                  try clear hfz17_1
                                  try clear hfz19_0
                                  try clear hfz19_1
                                  try clear hfz21_0
                                  try clear hfz21_1
                                  try clear hfz22_0
                                  try clear hfz22_1
                                  try clear hx112_0
                                  try clear hx113_0
                                  try clear hx114_0
                                  try clear hx114_1
                                  try clear p1
                                  try clear p112
                                  try clear p113
                                  try clear p114
                                  try clear p2
                                  try clear q1
                                  try clear q112
                                  try clear q113
                                  try clear q114
                                  obtain ⟨kq, x53_14, rfl, HA, HJ14, BK115, HB⟩ := hcut
                                  cases kq with
                                  | zero => exact absurd HA.out (by simp [geyserref03_Right.j3])
                                  | succ kj14 =>
                                    have H := HA.out
                                    clear HA
                                    simp only [geyserref03_Right.j3] at H
                                    by_cases c23 : x53_14 = true
                                    · subst c23
                                      have H1 : (some false) = some r := by rw [if_pos rfl] at H; exact H
                                      clear H
                                      have H := H1
                                      clear H1
                                      obtain rfl := Option.some.inj H
                                      go_wp2
                                      repeat (go_quiet (fail); try go_wp2)
                                      go_ret
                                      exact ⟨by first | rfl | (simp [errW_none, errW_some] <;> rfl) | (simp [*, errW_none, errW_some] <;> rfl), by repeat (first | (with_reducible first | exact HB.out | apply below_alloc | apply pw_below_drewN | apply below_drew1 | refine below_set ?_ GE115.out) | exact HB.out)⟩
                                    · replace c23 := Bool.eq_false_iff.mpr c23
                                      subst c23
                                      have H1 : (geyserref03_Right.l2 kj14 l0 a1 x22_2 (l0.length : Int) x22_2 ((rd_L3 l0 x22_2).length : Int) x30_3 x30_3 0 ((rd_T69 (rd_L3 l0 x22_2) x30_3).f0) ((rd_T69 (rd_L3 l0 x22_2) x30_3).f1)) = some r := by rw [if_neg (show ¬ (false = true) by decide)] at H; exact H
                                      clear H
                                      have H := H1
                                      clear H1
                                      have H' := Aside0.mk H
                                      clear H
                                      go_wp2
                                      repeat (go_quiet (fail); try go_wp2)
                                      go_loopg [55] kj14 (fun kq v55 w' => ∃ (x55_5 : Int), v55 = .int .i64 x55_5 ∧ Aside0 (geyserref03_Right.l2 kq l0 a1 x22_2 (l0.length : Int) x22_2 ((rd_L3 l0 x22_2).length : Int) x30_3 x30_3 x55_5 ((rd_T69 (rd_L3 l0 x22_2) x30_3).f0) ((rd_T69 (rd_L3 l0 x22_2) x30_3).f1) = some r) ∧ Aside0 (kq ≤ kj14) ∧ Aside0 (w'.heap[gb115]? = some (.cells #[.int .i64 ((rd_T69 (rd_L3 l0 x22_2) x30_3).f0), .int .u8 ((rd_T69 (rd_L3 l0 x22_2) x30_3).f1)] 69 (0, 0))) ∧ Aside0 (Below w.heap.size w w'))
                                      case atStart => exact ⟨(0), (by first | rfl | (simp; done) | (simp [*]; done)), H', ⟨Nat.le_refl _⟩, ⟨by (with_reducible repeat (first | refine blk_drewN ?_ _ | refine blk_drew ?_ | refine blk_alloc ?_ _)); exact BK115.out⟩, ⟨by repeat (first | (with_reducible first | exact HB.out | apply below_alloc | apply pw_below_drewN | apply below_drew1 | refine below_set ?_ GE115.out) | exact HB.out)⟩⟩
                                      case round =>
                                        clear H'
                                        try clear c1
                                        try clear p1
                                        try clear q1
                                        try clear hx1
                                        try clear c2
                                        try clear p2
                                        try clear c3
                                        try clear c4
                                        try clear c4b0
                                        try clear c5
                                        try clear c5b0
                                        try clear c6
                                        try clear c7
                                        try clear c7b0
                                        try clear c8
                                        try clear c8b0
                                        try clear c9
                                        try clear c9b0
                                        try clear c10
                                        try clear c10b0
                                        try clear c11
                                        try clear c11b0
                                        try clear p11
                                        try clear q11
                                        try clear hx11
                                        try clear c12
                                        try clear c12b0
                                        try clear c13
                                        try clear c13b0
                                        try clear c14
                                        try clear c14b0
                                        try clear c18
                                        try clear c18b0
                                        try clear c20
                                        try clear c20b0
                                        try clear c23
                                        try clear hcz17_0
                                        try clear hcz17_1
                                        try clear hcz19_0
                                        try clear hcz19_1
                                        try clear hcz21_0
                                        try clear hcz21_1
                                        try clear hcz22_0
                                        try clear hcz22_1
                                        try clear hfz17_0
                                        try clear hfz17_1
                                        try clear hfz19_0
                                        try clear hfz19_1
                                        try clear hfz21_0
                                        try clear hfz21_1
                                        try clear hfz22_0
                                        try clear hfz22_1
                                        try clear hx112_0
                                        try clear hx113_0
                                        try clear hx114_0
                                        try clear hx114_1
                                        try clear p1
                                        try clear p11
                                        try clear p112
                                        try clear p113
                                        try clear p114
                                        try clear p2
                                        try clear q1
                                        try clear q11
                                        try clear q112
                                        try clear q113
                                        try clear q114
                                        obtain ⟨x55_5, rfl, HA, HK5, BK115, HB⟩ := hrel
                                        cases gk with
                                        | zero => exact absurd HA.out (by simp [geyserref03_Right.l2])
                                        | succ k5 =>
                                          have H := HA.out
                                          clear HA
                                          simp only [geyserref03_Right.l2] at H
                                          by_cases c24 : x55_5 < x30_3
                                          · rw [if_pos c24] at H
                                            have c24b0 : decide (x55_5 < x30_3) = true := decide_eq_true c24
                                            clear c24
                                            by_cases c25 : 0 ≤ x22_2
                                            · rw [if_pos c25] at H
                                              have c25b0 : decide (0 ≤ x22_2) = true := decide_eq_true c25
                                              clear c25
                                              by_cases c26 : x22_2 < (l0.length : Int)
                                              · rw [if_pos c26] at H
                                                have c26b0 : decide (x22_2 < (l0.length : Int)) = true := decide_eq_true c26
                                                clear c26
                                                by_cases c27 : 0 ≤ x55_5
                                                · rw [if_pos c27] at H
                                                  have c27b0 : decide (0 ≤ x55_5) = true := decide_eq_true c27
                                                  clear c27
                                                  by_cases c28 : x55_5 < ((rd_L3 l0 x22_2).length : Int)
                                                  · rw [if_pos c28] at H
                                                    have c28b0 : decide (x55_5 < ((rd_L3 l0 x22_2).length : Int)) = true := decide_eq_true c28
                                                    clear c28
                                                    by_cases c29 : ((rd_T69 (rd_L3 l0 x22_2) x55_5).f0) = ((rd_T69 (rd_L3 l0 x22_2) x30_3).f0)
                                                    · rw [if_pos c29] at H
                                                      have c29b0 : (((rd_T69 (rd_L3 l0 x22_2) x55_5).f0) == ((rd_T69 (rd_L3 l0 x22_2) x30_3).f0)) = true := beq_iff_eq.mpr c29
                                                      have c29b1 : (((rd_T69 (rd_L3 l0 x22_2) x55_5).f0) != ((rd_T69 (rd_L3 l0 x22_2) x30_3).f0)) = false := bne_eq_false_iff_eq.mpr c29
                                                      clear c29
                                                      obtain rfl := Option.some.inj H
                                                      have p116 : 0 ≤ (x22_2 : Int) := of_decide_eq_true (by first | (with_reducible assumption) | assumption)
                                                      have q116 : x22_2 < (l0.length : Int) := of_decide_eq_true (by first | (with_reducible assumption) | assumption)
                                                      obtain ⟨ad116, A116_0, c116_0, e116, hx116_0, hl116_0, hi116_0⟩ := at_L3 HR0.out x22_2 p116 q116
                                                      obtain rfl : ad112 = ad116 := (by injection e116)
                                                      replace hx116_0 := (HB.out.cell (World.block_lt_of_cell? w _ hx116_0)).trans hx116_0
                                                      have HR116_0 := Aside0.mk hi116_0
                                                      have HC116_0 := Aside0.mk hl116_0
                                                      clear hi116_0 hl116_0
                                                      replace p116 := eq_true p116
                                                      replace q116 := eq_true q116
                                                      have p117 : 0 ≤ (x55_5 : Int) := of_decide_eq_true (by first | (with_reducible assumption) | assumption)
                                                      have q117 : x55_5 < ((rd_L3 l0 x22_2).length : Int) := of_decide_eq_true (by first | (with_reducible assumption) | assumption)
                                                      obtain ⟨ad117, e117, hx117_0, hx117_1⟩ := at_T69 HR116_0.out x55_5 p117 q117
                                                      cases e117
                                                      replace hx117_0 := (HB.out.cell (World.block_lt_of_cell? w _ hx117_0)).trans hx117_0
                                                      replace hx117_1 := (HB.out.cell (World.block_lt_of_cell? w _ hx117_1)).trans hx117_1
                                                      replace p117 := eq_true p117
                                                      replace q117 := eq_true q117
                                                      have hcz30_0 : wr.cell? ⟨gb115, 0, none⟩ = some (.int .i64 ((rd_T69 (rd_L3 l0 x22_2) x30_3).f0)) := (blk_cell BK115.out 0).trans rfl
                                                      have hcz30_1 : wr.cell? ⟨gb115, 1, none⟩ = some (.int .u8 ((rd_T69 (rd_L3 l0 x22_2) x30_3).f1)) := (blk_cell BK115.out 1).trans rfl
                                                      have hfz30_0 := blk_frozen BK115.out 0
                                                      have hfz30_1 := blk_frozen BK115.out 1
                                                      go_wp2
                                                      repeat (go_quiet (fail); try go_wp2)
                                                      go_ret
                                                      exact ⟨by first | rfl | (simp [errW_none, errW_some] <;> rfl) | (simp [*, errW_none, errW_some] <;> rfl), by repeat (first | (with_reducible first | exact HB.out | apply below_alloc | apply pw_below_drewN | apply below_drew1 | refine below_set ?_ GE115.out) | exact HB.out)⟩
                                                    · rw [if_neg c29] at H
                                                      have c29b0 : (((rd_T69 (rd_L3 l0 x22_2) x55_5).f0) == ((rd_T69 (rd_L3 l0 x22_2) x30_3).f0)) = false := beq_eq_false_iff_ne.mpr c29
                                                      have c29b1 : (((rd_T69 (rd_L3 l0 x22_2) x55_5).f0) != ((rd_T69 (rd_L3 l0 x22_2) x30_3).f0)) = true := bne_iff_ne.mpr c29
                                                      have H' := Aside0.mk H
                                                      clear H
                                                      have p116 : 0 ≤ (x22_2 : Int) := of_decide_eq_true (by first | (with_reducible assumption) | assumption)
                                                      have q116 : x22_2 < (l0.length : Int) := of_decide_eq_true (by first | (with_reducible assumption) | assumption)
                                                      obtain ⟨ad116, A116_0, c116_0, e116, hx116_0, hl116_0, hi116_0⟩ := at_L3 HR0.out x22_2 p116 q116
                                                      obtain rfl : ad112 = ad116 := (by injection e116)
                                                      replace hx116_0 := (HB.out.cell (World.block_lt_of_cell? w _ hx116_0)).trans hx116_0
                                                      have HR116_0 := Aside0.mk hi116_0
                                                      have HC116_0 := Aside0.mk hl116_0
                                                      clear hi116_0 hl116_0
                                                      replace p116 := eq_true p116
                                                      replace q116 := eq_true q116
                                                      have p117 : 0 ≤ (x55_5 : Int) := of_decide_eq_true (by first | (with_reducible assumption) | assumption)
                                                      have q117 : x55_5 < ((rd_L3 l0 x22_2).length : Int) := of_decide_eq_true (by first | (with_reducible assumption) | assumption)
                                                      obtain ⟨ad117, e117, hx117_0, hx117_1⟩ := at_T69 HR116_0.out x55_5 p117 q117
                                                      cases e117
                                                      replace hx117_0 := (HB.out.cell (World.block_lt_of_cell? w _ hx117_0)).trans hx117_0
                                                      replace hx117_1 := (HB.out.cell (World.block_lt_of_cell? w _ hx117_1)).trans hx117_1
                                                      replace p117 := eq_true p117
                                                      replace q117 := eq_true q117
                                                      have hcz31_0 : wr.cell? ⟨gb115, 0, none⟩ = some (.int .i64 ((rd_T69 (rd_L3 l0 x22_2) x30_3).f0)) := (blk_cell BK115.out 0).trans rfl
                                                      have hcz31_1 : wr.cell? ⟨gb115, 1, none⟩ = some (.int .u8 ((rd_T69 (rd_L3 l0 x22_2) x30_3).f1)) := (blk_cell BK115.out 1).trans rfl
                                                      have hfz31_0 := blk_frozen BK115.out 0
                                                      have hfz31_1 := blk_frozen BK115.out 1
                                                      go_wp2
                                                      repeat (go_quiet (fail); try go_wp2)
                                                      go_roundg k5
                                                      case measure => have := HJ2.out; have := HK2.out; have := HK3.out; have := HJ14.out; have := HK5.out; omega
                                                      case rel => exact ⟨(wrap64 (x55_5 + 1)), (by first | rfl | (simp; done) | (simp [*]; done)), H', ⟨by have := HJ2.out; have := HK2.out; have := HK3.out; have := HJ14.out; have := HK5.out; omega⟩, ⟨by (with_reducible repeat (first | refine blk_drewN ?_ _ | refine blk_drew ?_ | refine blk_alloc ?_ _)); exact BK115.out⟩, ⟨by repeat (first | (with_reducible first | exact HB.out | apply below_alloc | apply pw_below_drewN | apply below_drew1 | refine below_set ?_ GE115.out) | exact HB.out)⟩⟩
                                                  · rw [if_neg c28] at H
                                                    exact absurd H (by simp)
                                                · rw [if_neg c27] at H
                                                  exact absurd H (by simp)
                                              · rw [if_neg c26] at H
                                                exact absurd H (by simp)
                                            · rw [if_neg c25] at H
                                              exact absurd H (by simp)
                                          · rw [if_neg c24] at H
                                            have c24b0 : decide (x55_5 < x30_3) = false := decide_eq_false c24
                                            clear c24
                                            have H' := Aside0.mk H
                                            clear H
                                            go_wp2
                                            repeat (go_quiet (fail); try go_wp2)
                                            go_roundg k5
                                            case measure => have := HJ2.out; have := HK2.out; have := HK3.out; have := HJ14.out; have := HK5.out; omega
                                            case rel => exact ⟨(wrap64 (x30_3 + 1)), (by first | rfl | (simp; done) | (simp [*]; done)), H', ⟨by have := HJ2.out; have := HK2.out; have := HK3.out; have := HJ14.out; have := HK5.out; omega⟩, ⟨by repeat (first | (with_reducible first | exact HB.out | apply below_alloc | apply pw_below_drewN | apply below_drew1 | refine below_set ?_ GE115.out) | exact HB.out)⟩⟩
                              · rw [if_neg c14] at H
                                exact absurd H (by simp)
                            · rw [if_neg c13] at H
                              exact absurd H (by simp)
                          · rw [if_neg c12] at H
                            exact absurd H (by simp)
                        · rw [if_neg c11] at H
                          exact absurd H (by simp)
                      · rw [if_neg c10] at H
                        have c10b0 : decide (x30_3 < ((rd_L3 l0 x22_2).length : Int)) = false := decide_eq_false c10
                        clear c10
                        have H' := Aside0.mk H
                        clear H
                        go_wp2
                        repeat (go_quiet (fail); try go_wp2)
                        go_roundg k3
                        case measure => have := HJ2.out; have := HK2.out; have := HK3.out; omega
                        case rel => exact ⟨(wrap64 (x22_2 + 1)), (by first | rfl | (simp; done) | (simp [*]; done)), H', ⟨by have := HJ2.out; have := HK2.out; have := HK3.out; omega⟩, ⟨by repeat (first | (with_reducible first | exact HB.out | apply below_alloc | apply pw_below_drewN | apply below_drew1) | exact HB.out)⟩⟩
                · rw [if_neg c9] at H
                  exact absurd H (by simp)
              · rw [if_neg c8] at H
                exact absurd H (by simp)
            · rw [if_neg c7] at H
              have c7b0 : decide (x22_2 < (l0.length : Int)) = false := decide_eq_false c7
              clear c7
              obtain rfl := Option.some.inj H
              go_wp2
              repeat (go_quiet (fail); try go_wp2)
              go_ret
              exact ⟨by first | rfl | (simp [errW_none, errW_some] <;> rfl) | (simp [*, errW_none, errW_some] <;> rfl), by repeat (first | (with_reducible first | exact HB.out | apply below_alloc | apply pw_below_drewN | apply below_drew1) | exact HB.out)⟩

/-! ### geyserlaw10_PeelRights: function 8 -/
def geyserlaw10_PeelRights.j0 : Nat → List (List (S69)) → Int → Bool → Option (Bool)
  | 0, _, _, _ => none
  | k + 1, x0, x1, x11 => if x11 = true then ((geyserlaw10_awake.f k).bind fun t120 => (some t120)) else ((peel_Right.f k x0 x1).bind fun t121 => ((geyserref03_Right.f k x0 x1).bind fun t122 => (some (t121 == t122))))
def geyserlaw10_PeelRights.f (k : Nat) (l0 : List (List (S69))) (a1 : Int) : Option (Bool) := (geyserlaw10_awake.f k).bind fun t118 => (if t118 = true then ((geyserlaw10_Few.f k l0).bind fun t119 => (geyserlaw10_PeelRights.j0 k l0 a1 (!t119))) else (geyserlaw10_PeelRights.j0 k l0 a1 true))
theorem geyserlaw10_PeelRights.mono_l : ∀ k, (∀ y0 y1 y2, LeO (geyserlaw10_PeelRights.j0 k y0 y1 y2) (geyserlaw10_PeelRights.j0 (k + 1) y0 y1 y2))
  | 0 => fun _ _ _ r h => by simp [geyserlaw10_PeelRights.j0] at h
  | k + 1 => by
    have ih0 := geyserlaw10_PeelRights.mono_l k
    · intro y0 y1 y2
      unfold geyserlaw10_PeelRights.j0
      repeat' first
      | (with_reducible exact ih0 _ _ _)
      | (with_reducible exact geyserlaw10_Few.mono _ _)
      | (with_reducible exact geyserlaw10_awake.mono _)
      | (with_reducible exact geyserref03_Right.mono _ _ _)
      | (with_reducible exact peel_Right.mono _ _ _)
      | (with_reducible exact LeO.refl _)
      | (with_reducible exact LeO.none _)
      | (with_reducible refine LeO.ite ?_ ?_)
      | (with_reducible refine LeO.bind ?_ (fun _ => ?_))
      | exact ih0 _ _ _
      | exact geyserlaw10_Few.mono _ _
      | exact geyserlaw10_awake.mono _
      | exact geyserref03_Right.mono _ _ _
      | exact peel_Right.mono _ _ _
      | exact LeO.none _
      | refine LeO.ite ?_ ?_
      | refine LeO.bind ?_ (fun _ => ?_)
theorem geyserlaw10_PeelRights.mono : ∀ a0 a1 k, LeO (geyserlaw10_PeelRights.f k a0 a1) (geyserlaw10_PeelRights.f (k + 1) a0 a1) := by
  intro a0 a1 k
  have ih0 := geyserlaw10_PeelRights.mono_l k
  unfold geyserlaw10_PeelRights.f
  repeat' first
      | (with_reducible exact ih0 _ _ _)
      | (with_reducible exact geyserlaw10_Few.mono _ _)
      | (with_reducible exact geyserlaw10_awake.mono _)
      | (with_reducible exact geyserref03_Right.mono _ _ _)
      | (with_reducible exact peel_Right.mono _ _ _)
      | (with_reducible exact LeO.refl _)
      | (with_reducible exact LeO.none _)
      | (with_reducible refine LeO.ite ?_ ?_)
      | (with_reducible refine LeO.bind ?_ (fun _ => ?_))
      | exact ih0 _ _ _
      | exact geyserlaw10_Few.mono _ _
      | exact geyserlaw10_awake.mono _
      | exact geyserref03_Right.mono _ _ _
      | exact peel_Right.mono _ _ _
      | exact LeO.none _
      | refine LeO.ite ?_ ?_
      | refine LeO.bind ?_ (fun _ => ?_)
set_option maxHeartbeats 8000000 in
set_option maxRecDepth 100000 in
theorem geyserlaw10_PeelRights.calls (k : Nat) (A0 : Option Addr) (c0 : Nat) (l0 : List (List (S69))) (a1 : Int) (r : Bool) (w : World) (hr0 : Kd.C (Kd.slice 69 k69) w A0 l0.length l0) (hc0 : l0.length ≤ c0) (h : geyserlaw10_PeelRights.f k l0 a1 = some r) :
    Calls Try.prog 8 #[.slice A0 l0.length c0, .int .i64 a1] w fun e w' => e = .returned (.bool r) ∧ Below w.heap.size w w' := by
  have HR0 := Aside0.mk hr0
  have HC0 := Aside0.mk hc0
  clear hr0 hc0
  have HB := Aside0.mk (Below.refl w.heap.size w)
  have H : ((geyserlaw10_awake.f k).bind fun t118 => (if t118 = true then ((geyserlaw10_Few.f k l0).bind fun t119 => (geyserlaw10_PeelRights.j0 k l0 a1 (!t119))) else (geyserlaw10_PeelRights.j0 k l0 a1 true))) = some r := h
  clear h
  have HC3 := Aside0.mk H
  clear H
  go_enter Try.func8, Try.ntmps8
  go_upto_region 1 with (fail)
  go_cut [11] (fun v11 wc => ∃ (kq : Nat) (x11_2 : Bool), v11 = .bool x11_2 ∧ Aside0 (geyserlaw10_PeelRights.j0 kq l0 a1 x11_2 = some r) ∧ Aside0 (kq ≤ k) ∧ Aside0 (Below w.heap.size w wc))
  case first =>
    have H := HC3.out
    clear HC3
    replace H := Option.bind_eq_some_iff.mp H
    obtain ⟨t118, A40, H⟩ := H
    replace H : (if t118 = true then ((geyserlaw10_Few.f k l0).bind fun t119 => (geyserlaw10_PeelRights.j0 k l0 a1 (!t119))) else (geyserlaw10_PeelRights.j0 k l0 a1 true)) = some r := H
    have A4 := Aside0.mk A40
    clear A40
    by_cases c5 : t118 = true
    · subst c5
      have H1 : ((geyserlaw10_Few.f k l0).bind fun t119 => (geyserlaw10_PeelRights.j0 k l0 a1 (!t119))) = some r := by rw [if_pos rfl] at H; exact H
      clear H
      have H := H1
      clear H1
      replace H := Option.bind_eq_some_iff.mp H
      obtain ⟨t119, A60, H⟩ := H
      replace H : (geyserlaw10_PeelRights.j0 k l0 a1 (!t119)) = some r := H
      have A6 := Aside0.mk A60
      clear A60
      have H' := Aside0.mk H
      clear H
      go_wp2_with (first | ((with_reducible refine gate_callee (f := 27) rfl ?_); refine goesL_ (some 5) rfl rfl Try.func27 (by kernel_rfl) rfl #[] rfl (by (try simp only [List.map_toArray, List.map_cons, List.map_nil]); first | done | rfl | (simp only [List.length_drop, List.length_take]; rfl)) ?_; (with_reducible refine (geyserlaw10_awake.calls k  true _ A4.out).mono ?_); rintro e w7 ⟨rfl, hb⟩; refine ⟨_, rfl, ?_⟩; have n0_ := Aside0.mk (below_step (by repeat (first | (with_reducible first | exact HB.out | apply below_alloc | apply pw_below_drewN | apply below_drew1) | exact HB.out)) hb); clear HB; have HB := n0_; clear n0_; (try clear hb); (try clear hb2); (try clear hk); (try clear hi)) | (go_at_call 28; (with_reducible refine (geyserlaw10_Few.calls k _ _ l0 t119 _ ?side1 ?side2 A6.out).mono ?_); (case side1 => repeat (first | exact (Kd.C_below HR0.out HB.out) | (with_reducible refine Kd.C_alloc ?_ _) | (with_reducible refine Kd.C_drewN ?_ _) | (with_reducible refine Kd.C_drew ?_))); (case side2 => exact HC0.out); rintro e w' ⟨rfl, ⟨nd, rfl⟩⟩))
      go_meet
      case rel => exact ⟨_, (!t119), (by first | rfl | (simp; done) | (simp [*]; done)), H', ⟨by first | omega | exact Nat.le_refl _⟩, ⟨by repeat (first | (with_reducible first | exact HB.out | apply below_alloc | apply pw_below_drewN | apply below_drew1) | exact HB.out)⟩⟩
    · replace c5 := Bool.eq_false_iff.mpr c5
      subst c5
      have H1 : (geyserlaw10_PeelRights.j0 k l0 a1 true) = some r := by rw [if_neg (show ¬ (false = true) by decide)] at H; exact H
      clear H
      have H := H1
      clear H1
      have H' := Aside0.mk H
      clear H
      go_wp2_with (first | ((with_reducible refine gate_callee (f := 27) rfl ?_); refine goesL_ (some 5) rfl rfl Try.func27 (by kernel_rfl) rfl #[] rfl (by (try simp only [List.map_toArray, List.map_cons, List.map_nil]); first | done | rfl | (simp only [List.length_drop, List.length_take]; rfl)) ?_; (with_reducible refine (geyserlaw10_awake.calls k  false _ A4.out).mono ?_); rintro e w8 ⟨rfl, hb⟩; refine ⟨_, rfl, ?_⟩; have n0_ := Aside0.mk (below_step (by repeat (first | (with_reducible first | exact HB.out | apply below_alloc | apply pw_below_drewN | apply below_drew1) | exact HB.out)) hb); clear HB; have HB := n0_; clear n0_; (try clear hb); (try clear hb2); (try clear hk); (try clear hi)))
      go_meet
      case rel => exact ⟨_, (true), (by first | rfl | (simp; done) | (simp [*]; done)), H', ⟨by first | omega | exact Nat.le_refl _⟩, ⟨by repeat (first | (with_reducible first | exact HB.out | apply below_alloc | apply pw_below_drewN | apply below_drew1) | exact HB.out)⟩⟩
  case rest =>
    clear HC3
    try clear c2
    try clear p2
    try clear c5
    try clear c8
    obtain ⟨kq, x11_2, rfl, HA, HJ2, HB⟩ := hcut
    cases kq with
    | zero => exact absurd HA.out (by simp [geyserlaw10_PeelRights.j0])
    | succ kj2 =>
      have H := HA.out
      clear HA
      simp only [geyserlaw10_PeelRights.j0] at H
      by_cases c9 : x11_2 = true
      · subst c9
        have H1 : ((geyserlaw10_awake.f kj2).bind fun t120 => (some t120)) = some r := by rw [if_pos rfl] at H; exact H
        clear H
        have H := H1
        clear H1
        replace H := Option.bind_eq_some_iff.mp H
        obtain ⟨t120, A100, H⟩ := H
        replace H : (some t120) = some r := H
        have A10 := Aside0.mk A100
        clear A100
        obtain rfl := Option.some.inj H
        go_wp2_with (first | ((with_reducible refine gate_callee (f := 27) rfl ?_); refine goesL_ (some 12) rfl rfl Try.func27 (by kernel_rfl) rfl #[] rfl (by (try simp only [List.map_toArray, List.map_cons, List.map_nil]); first | done | rfl | (simp only [List.length_drop, List.length_take]; rfl)) ?_; (with_reducible refine (geyserlaw10_awake.calls kj2  t120 _ A10.out).mono ?_); rintro e w11 ⟨rfl, hb⟩; refine ⟨_, rfl, ?_⟩; have n0_ := Aside0.mk (below_step (by repeat (first | (with_reducible first | exact HB.out | apply below_alloc | apply pw_below_drewN | apply below_drew1) | exact HB.out)) hb); clear HB; have HB := n0_; clear n0_; (try clear hb); (try clear hb2); (try clear hk); (try clear hi)))
        go_ret
        exact ⟨by first | rfl | (simp [errW_none, errW_some] <;> rfl) | (simp [*, errW_none, errW_some] <;> rfl), by repeat (first | (with_reducible first | exact HB.out | apply below_alloc | apply pw_below_drewN | apply below_drew1) | exact HB.out)⟩
      · replace c9 := Bool.eq_false_iff.mpr c9
        subst c9
        have H1 : ((peel_Right.f kj2 l0 a1).bind fun t121 => ((geyserref03_Right.f kj2 l0 a1).bind fun t122 => (some (t121 == t122)))) = some r := by rw [if_neg (show ¬ (false = true) by decide)] at H; exact H
        clear H
        have H := H1
        clear H1
        replace H := Option.bind_eq_some_iff.mp H
        obtain ⟨t121, A120, H⟩ := H
        replace H : ((geyserref03_Right.f kj2 l0 a1).bind fun t122 => (some (t121 == t122))) = some r := H
        have A12 := Aside0.mk A120
        clear A120
        replace H := Option.bind_eq_some_iff.mp H
        obtain ⟨t122, A130, H⟩ := H
        replace H : (some (t121 == t122)) = some r := H
        have A13 := Aside0.mk A130
        clear A130
        obtain rfl := Option.some.inj H
        go_wp2_with (first | ((with_reducible refine gate_callee (f := 29) rfl ?_); refine goesL_ (some 15) rfl rfl Try.func29 (by kernel_rfl) rfl #[.slice A0 l0.length c0, .int .i64 a1] rfl (by (try simp only [List.map_toArray, List.map_cons, List.map_nil]); first | done | rfl | (simp only [List.length_drop, List.length_take]; rfl)) ?_; (with_reducible refine (peel_Right.calls kj2 _ _ l0 a1 t121 _ ?side1 ?side2 A12.out).mono ?_); (case side1 => repeat (first | exact (Kd.C_below HR0.out HB.out) | (with_reducible refine Kd.C_alloc ?_ _) | (with_reducible refine Kd.C_drewN ?_ _) | (with_reducible refine Kd.C_drew ?_))); (case side2 => exact HC0.out); rintro e w14 ⟨rfl, hb⟩; refine ⟨_, rfl, ?_⟩; have n0_ := Aside0.mk (below_step (by repeat (first | (with_reducible first | exact HB.out | apply below_alloc | apply pw_below_drewN | apply below_drew1) | exact HB.out)) hb); clear HB; have HB := n0_; clear n0_; (try clear hb); (try clear hb2); (try clear hk); (try clear hi)) | ((with_reducible refine gate_callee (f := 30) rfl ?_); refine goesL_ (some 18) rfl rfl Try.func30 (by kernel_rfl) rfl #[.slice A0 l0.length c0, .int .i64 a1] rfl (by (try simp only [List.map_toArray, List.map_cons, List.map_nil]); first | done | rfl | (simp only [List.length_drop, List.length_take]; rfl)) ?_; (with_reducible refine (geyserref03_Right.calls kj2 _ _ l0 a1 t122 _ ?side1 ?side2 A13.out).mono ?_); (case side1 => repeat (first | exact (Kd.C_below HR0.out HB.out) | (with_reducible refine Kd.C_alloc ?_ _) | (with_reducible refine Kd.C_drewN ?_ _) | (with_reducible refine Kd.C_drew ?_))); (case side2 => exact HC0.out); rintro e w15 ⟨rfl, hb⟩; refine ⟨_, rfl, ?_⟩; have n0_ := Aside0.mk (below_step (by repeat (first | (with_reducible first | exact HB.out | apply below_alloc | apply pw_below_drewN | apply below_drew1) | exact HB.out)) hb); clear HB; have HB := n0_; clear n0_; (try clear hb); (try clear hb2); (try clear hk); (try clear hi)))
        go_ret
        exact ⟨by first | rfl | (simp [errW_none, errW_some] <;> rfl) | (simp [*, errW_none, errW_some] <;> rfl), by repeat (first | (with_reducible first | exact HB.out | apply below_alloc | apply pw_below_drewN | apply below_drew1) | exact HB.out)⟩

end Go.Proofs.Ytkheloahiepoiaa.PPeelRights
