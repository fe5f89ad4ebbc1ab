/- Machine-made by a program of this claim: functions of the Go program as Lean functions, and that its calls do what these say. Lean checks it. -/
import Derived.Test.YtfdfijohcapgaaaDoorQPartx0
namespace Go.Proofs.YtfdfijohcapgaaaDoor.QPart
open Go.RowKit Go.Proofs.YtfdfijohcapgaaaDoorW.PrintWords Go.Proofs.YtfdfijohcapgaaaDoorW.PrintLast Go.Proofs.YtfdfijohcapgaaaDoorW.PrintMore
attribute [local go_sem] max2_int min2_int max_two min_two max_three min_three max_four min_four   -- for this text's walks alone
set_option linter.unusedVariables false
set_option linter.unusedSimpArgs false

/-! ### geyserref14_Path: function 6 -/
mutual
def geyserref14_Path.j0 : Nat → ByteArray → Bool → Option (Bool)
  | 0, _, _ => none
  | k + 1, x0, x22 => if x22 = true then (some false) else (geyserref14_Path.l0 k x0 0 0)
def geyserref14_Path.l0 : Nat → ByteArray → Int → Int → Option (Bool)
  | 0, _, _, _ => none
  | k + 1, x0, x3, x4 => if x4 ≤ (x0.size : Int) then (if x4 < (x0.size : Int) then (if 0 ≤ x4 then (geyserref14_Path.j2 k x0 x3 x4 ((bt x0 x4) != 47)) else (none)) else (geyserref14_Path.j2 k x0 x3 x4 false)) else (some true)
def geyserref14_Path.j2 : Nat → ByteArray → Int → Int → Bool → Option (Bool)
  | 0, _, _, _, _ => none
  | k + 1, x0, x3, x4, x38 => if x38 = true then (if 0 ≤ x4 then (if x4 < (x0.size : Int) then (if (bt x0 x4) ≥ 97 then (if (bt x0 x4) ≤ 122 then (geyserref14_Path.j3 k x0 x3 x4 (!true)) else (if (bt x0 x4) ≥ 48 then (if (bt x0 x4) ≤ 57 then (geyserref14_Path.j3 k x0 x3 x4 (!true)) else (if (bt x0 x4) = 46 then (geyserref14_Path.j3 k x0 x3 x4 (!true)) else (if (bt x0 x4) = 95 then (geyserref14_Path.j3 k x0 x3 x4 (!true)) else (geyserref14_Path.j3 k x0 x3 x4 (!((bt x0 x4) == 45)))))) else (if (bt x0 x4) = 46 then (geyserref14_Path.j3 k x0 x3 x4 (!true)) else (if (bt x0 x4) = 95 then (geyserref14_Path.j3 k x0 x3 x4 (!true)) else (geyserref14_Path.j3 k x0 x3 x4 (!((bt x0 x4) == 45))))))) else (if (bt x0 x4) ≥ 48 then (if (bt x0 x4) ≤ 57 then (geyserref14_Path.j3 k x0 x3 x4 (!true)) else (if (bt x0 x4) = 46 then (geyserref14_Path.j3 k x0 x3 x4 (!true)) else (if (bt x0 x4) = 95 then (geyserref14_Path.j3 k x0 x3 x4 (!true)) else (geyserref14_Path.j3 k x0 x3 x4 (!((bt x0 x4) == 45)))))) else (if (bt x0 x4) = 46 then (geyserref14_Path.j3 k x0 x3 x4 (!true)) else (if (bt x0 x4) = 95 then (geyserref14_Path.j3 k x0 x3 x4 (!true)) else (geyserref14_Path.j3 k x0 x3 x4 (!((bt x0 x4) == 45))))))) else (none)) else (none)) else (if 0 ≤ x3 then (if x3 ≤ x4 then (if x4 ≤ (x0.size : Int) then (if (x0.extract (x3 : Int).toNat (x4 : Int).toNat).toList = ([] : List UInt8) then (some false) else (if (x0.extract (x3 : Int).toNat (x4 : Int).toNat).toList = ([46] : List UInt8) then (some false) else (if (x0.extract (x3 : Int).toNat (x4 : Int).toNat).toList = ([46, 46] : List UInt8) then (some false) else (if x3 = 0 then (if (x0.extract (x3 : Int).toNat (x4 : Int).toNat).toList = ([111, 108, 100] : List UInt8) then (some false) else (if (x0.extract (x3 : Int).toNat (x4 : Int).toNat).toList = ([116, 109, 112] : List UInt8) then (some false) else (geyserref14_Path.l0 k x0 (wrap64 (x4 + 1)) (wrap64 (x4 + 1))))) else (geyserref14_Path.l0 k x0 (wrap64 (x4 + 1)) (wrap64 (x4 + 1))))))) else (none)) else (none)) else (none))
def geyserref14_Path.j3 : Nat → ByteArray → Int → Int → Bool → Option (Bool)
  | 0, _, _, _, _ => none
  | k + 1, x0, x3, x4, x68 => if x68 = true then (some false) else (geyserref14_Path.l0 k x0 x3 (wrap64 (x4 + 1)))
end
def geyserref14_Path.f (k : Nat) (a0 : ByteArray) : Option (Bool) := if (a0.size : Int) > 40 then (geyserref14_Path.j0 k a0 true) else (if (a0.size : Int) ≥ 4 then (if 0 ≤ (wrap64 ((a0.size : Int) - 4)) then (if (wrap64 ((a0.size : Int) - 4)) ≤ (a0.size : Int) then (geyserref14_Path.j0 k a0 ((a0.extract ((wrap64 ((a0.size : Int) - 4)) : Int).toNat a0.size).toList == ([46, 103, 121, 115] : List UInt8))) else (none)) else (none)) else (geyserref14_Path.j0 k a0 false))
theorem geyserref14_Path.mono_l : ∀ k, (∀ y0 y1, LeO (geyserref14_Path.j0 k y0 y1) (geyserref14_Path.j0 (k + 1) y0 y1)) ∧ (∀ y0 y1 y2, LeO (geyserref14_Path.l0 k y0 y1 y2) (geyserref14_Path.l0 (k + 1) y0 y1 y2)) ∧ (∀ y0 y1 y2 y3, LeO (geyserref14_Path.j2 k y0 y1 y2 y3) (geyserref14_Path.j2 (k + 1) y0 y1 y2 y3)) ∧ (∀ y0 y1 y2 y3, LeO (geyserref14_Path.j3 k y0 y1 y2 y3) (geyserref14_Path.j3 (k + 1) y0 y1 y2 y3))
  | 0 => ⟨fun _ _ r h => by simp [geyserref14_Path.j0] at h, fun _ _ _ r h => by simp [geyserref14_Path.l0] at h, fun _ _ _ _ r h => by simp [geyserref14_Path.j2] at h, fun _ _ _ _ r h => by simp [geyserref14_Path.j3] at h⟩
  | k + 1 => by
    obtain ⟨ih0, ih1, ih2, ih3⟩ := geyserref14_Path.mono_l k
    refine ⟨?_, ?_, ?_, ?_⟩
    · intro y0 y1
      unfold geyserref14_Path.j0
      repeat' first
      | (with_reducible exact ih0 _ _)
      | (with_reducible exact ih1 _ _ _)
      | (with_reducible exact ih2 _ _ _ _)
      | (with_reducible exact ih3 _ _ _ _)
      | (with_reducible exact LeO.refl _)
      | (with_reducible exact LeO.none _)
      | (with_reducible refine LeO.ite ?_ ?_)
      | (with_reducible refine LeO.bind ?_ (fun _ => ?_))
      | exact ih0 _ _
      | exact ih1 _ _ _
      | exact ih2 _ _ _ _
      | exact ih3 _ _ _ _
      | exact LeO.none _
      | refine LeO.ite ?_ ?_
      | refine LeO.bind ?_ (fun _ => ?_)
    · intro y0 y1 y2
      unfold geyserref14_Path.l0
      repeat' first
      | (with_reducible exact ih0 _ _)
      | (with_reducible exact ih1 _ _ _)
      | (with_reducible exact ih2 _ _ _ _)
      | (with_reducible exact ih3 _ _ _ _)
      | (with_reducible exact LeO.refl _)
      | (with_reducible exact LeO.none _)
      | (with_reducible refine LeO.ite ?_ ?_)
      | (with_reducible refine LeO.bind ?_ (fun _ => ?_))
      | exact ih0 _ _
      | exact ih1 _ _ _
      | exact ih2 _ _ _ _
      | exact ih3 _ _ _ _
      | exact LeO.none _
      | refine LeO.ite ?_ ?_
      | refine LeO.bind ?_ (fun _ => ?_)
    · intro y0 y1 y2 y3
      unfold geyserref14_Path.j2
      repeat' first
      | (with_reducible exact ih0 _ _)
      | (with_reducible exact ih1 _ _ _)
      | (with_reducible exact ih2 _ _ _ _)
      | (with_reducible exact ih3 _ _ _ _)
      | (with_reducible exact LeO.refl _)
      | (with_reducible exact LeO.none _)
      | (with_reducible refine LeO.ite ?_ ?_)
      | (with_reducible refine LeO.bind ?_ (fun _ => ?_))
      | exact ih0 _ _
      | exact ih1 _ _ _
      | exact ih2 _ _ _ _
      | exact ih3 _ _ _ _
      | exact LeO.none _
      | refine LeO.ite ?_ ?_
      | refine LeO.bind ?_ (fun _ => ?_)
    · intro y0 y1 y2 y3
      unfold geyserref14_Path.j3
      repeat' first
      | (with_reducible exact ih0 _ _)
      | (with_reducible exact ih1 _ _ _)
      | (with_reducible exact ih2 _ _ _ _)
      | (with_reducible exact ih3 _ _ _ _)
      | (with_reducible exact LeO.refl _)
      | (with_reducible exact LeO.none _)
      | (with_reducible refine LeO.ite ?_ ?_)
      | (with_reducible refine LeO.bind ?_ (fun _ => ?_))
      | exact ih0 _ _
      | exact ih1 _ _ _
      | exact ih2 _ _ _ _
      | exact ih3 _ _ _ _
      | exact LeO.none _
      | refine LeO.ite ?_ ?_
      | refine LeO.bind ?_ (fun _ => ?_)
theorem geyserref14_Path.mono : ∀ a0 k, LeO (geyserref14_Path.f k a0) (geyserref14_Path.f (k + 1) a0) := by
  intro a0 k
  obtain ⟨ih0, ih1, ih2, ih3⟩ := geyserref14_Path.mono_l k
  unfold geyserref14_Path.f
  repeat' first
      | (with_reducible exact ih0 _ _)
      | (with_reducible exact ih1 _ _ _)
      | (with_reducible exact ih2 _ _ _ _)
      | (with_reducible exact ih3 _ _ _ _)
      | (with_reducible exact LeO.refl _)
      | (with_reducible exact LeO.none _)
      | (with_reducible refine LeO.ite ?_ ?_)
      | (with_reducible refine LeO.bind ?_ (fun _ => ?_))
      | exact ih0 _ _
      | exact ih1 _ _ _
      | exact ih2 _ _ _ _
      | exact ih3 _ _ _ _
      | exact LeO.none _
      | refine LeO.ite ?_ ?_
      | refine LeO.bind ?_ (fun _ => ?_)
set_option maxHeartbeats 8000000 in
set_option maxRecDepth 100000 in
theorem geyserref14_Path.calls (k : Nat) (a0 : ByteArray) (r : Bool) (w : World) (h : geyserref14_Path.f k a0 = some r) :
    Calls Tryd.prog 6 #[.string a0] w fun e w' => e = .returned (.bool r) ∧ Drawn0 w w' := by
  have H : (if (a0.size : Int) > 40 then (geyserref14_Path.j0 k a0 true) else (if (a0.size : Int) ≥ 4 then (if 0 ≤ (wrap64 ((a0.size : Int) - 4)) then (if (wrap64 ((a0.size : Int) - 4)) ≤ (a0.size : Int) then (geyserref14_Path.j0 k a0 ((a0.extract ((wrap64 ((a0.size : Int) - 4)) : Int).toNat a0.size).toList == ([46, 103, 121, 115] : List UInt8))) else (none)) else (none)) else (geyserref14_Path.j0 k a0 false))) = some r := h
  clear h
  have HC2 := Aside0.mk H
  clear H
  go_enter Tryd.func6, Tryd.ntmps6
  go_upto_region 1 with (fail)
  go_cut [22] (fun v22 wc => ∃ (kq : Nat) (x22_1 : Bool), v22 = .bool x22_1 ∧ Aside0 (geyserref14_Path.j0 kq a0 x22_1 = some r) ∧ Aside0 (kq ≤ k) ∧ Drawn0 w wc)
  case first =>
    have H := HC2.out
    clear HC2
    by_cases c3 : (a0.size : Int) > 40
    · rw [if_pos c3] at H
      have c3b0 : decide (40 < (a0.size : Int)) = true := decide_eq_true c3
      have c3b1 : decide (40 < a0.size) = true := decide_eq_true (by omega)
      clear c3
      (first | rw [c3b0] | (simp only [i64_w, i32_w]; rw [c3b0]) | skip)
      have H' := Aside0.mk H
      clear H
      go_wp2
      go_meet
      case rel => exact ⟨_, (true), (by first | rfl | (simp; done) | (simp [*]; done)), H', ⟨by first | omega | exact Nat.le_refl _⟩, by repeat (first | exact Drawn0.refl _ | apply Drawn0.step)⟩
    · rw [if_neg c3] at H
      have c3b0 : decide (40 < (a0.size : Int)) = false := decide_eq_false c3
      have c3b1 : decide (40 < a0.size) = false := decide_eq_false (by omega)
      clear c3
      (first | rw [c3b0] | (simp only [i64_w, i32_w]; rw [c3b0]) | skip)
      by_cases c4 : (a0.size : Int) ≥ 4
      · rw [if_pos c4] at H
        have c4b0 : decide (4 ≤ (a0.size : Int)) = true := decide_eq_true c4
        have c4b1 : decide (4 ≤ a0.size) = true := decide_eq_true (by omega)
        clear c4
        obtain ⟨ji5, hji5⟩ : ∃ j_ : Int, (wrap64 ((a0.size : Int) - 4)) = j_ := ⟨_, rfl⟩
        replace H : (if 0 ≤ (ji5) then (if (ji5) ≤ (a0.size : Int) then (geyserref14_Path.j0 k a0 ((a0.extract ((ji5) : Int).toNat a0.size).toList == ([46, 103, 121, 115] : List UInt8))) else (none)) else (none)) = some r := by first | (rw [hji5] at H; exact H) | (simp only [hji5] at H ⊢; exact H)
        have hji5w : (IntKind.i64.wrap ((a0.size : Int) - 4)) = ji5 := (i64_w _).trans hji5
        by_cases c6 : 0 ≤ (ji5)
        · rw [if_pos c6] at H
          have c6b0 := eq_true c6
          have c6b1 : decide (0 ≤ (ji5)) = true := decide_eq_true c6
          clear c6
          by_cases c7 : (ji5) ≤ (a0.size : Int)
          · rw [if_pos c7] at H
            have c7b0 := eq_true c7
            have c7b1 : decide ((ji5) ≤ (a0.size : Int)) = true := decide_eq_true c7
            clear c7
            have H' := Aside0.mk H
            clear H
            go_wp2
            go_meet
            case rel => exact ⟨_, (((a0.extract ((ji5) : Int).toNat a0.size).toList == ([46, 103, 121, 115] : List UInt8))), (by first | rfl | (simp; done) | (simp only [← hji5] <;> (first | rfl | simp)) | (simp [*]; done)), H', ⟨by first | omega | exact Nat.le_refl _⟩, by repeat (first | exact Drawn0.refl _ | apply Drawn0.step)⟩
          · rw [if_neg c7] at H
            exact absurd H (by simp)
        · rw [if_neg c6] at H
          exact absurd H (by simp)
      · rw [if_neg c4] at H
        have c4b0 : decide (4 ≤ (a0.size : Int)) = false := decide_eq_false c4
        have c4b1 : decide (4 ≤ a0.size) = false := decide_eq_false (by omega)
        clear c4
        have H' := Aside0.mk H
        clear H
        go_wp2
        go_meet
        case rel => exact ⟨_, (false), (by first | rfl | (simp; done) | (simp [*]; done)), H', ⟨by first | omega | exact Nat.le_refl _⟩, by repeat (first | exact Drawn0.refl _ | apply Drawn0.step)⟩
  case rest =>
    clear HC2
    try clear p2
    try clear c3
    try clear c3b0
    try clear c3b1
    try clear c4
    try clear c4b0
    try clear c4b1
    try clear c6
    try clear c6b0
    try clear c6b1
    try clear p6
    try clear c7
    try clear c7b0
    try clear c7b1
    obtain ⟨kq, x22_1, rfl, HA, HJ1, ⟨mc1, rfl⟩⟩ := hcut
    cases kq with
    | zero => exact absurd HA.out (by simp [geyserref14_Path.j0])
    | succ kj1 =>
      have H := HA.out
      clear HA
      simp only [geyserref14_Path.j0] at H
      by_cases c8 : x22_1 = true
      · subst c8
        have H1 : (some false) = some r := by rw [if_pos rfl] at H; exact H
        clear H
        have H := H1
        clear H1
        obtain rfl := Option.some.inj H
        go_wp2
        go_ret
        exact ⟨by first | rfl | (simp; done) | (simp [*]; done), by repeat (first | exact Drawn0.refl _ | apply Drawn0.step)⟩
      · replace c8 := Bool.eq_false_iff.mpr c8
        subst c8
        have H1 : (geyserref14_Path.l0 kj1 a0 0 0) = some r := by rw [if_neg (show ¬ (false = true) by decide)] at H; exact H
        clear H
        have H := H1
        clear H1
        have H' := Aside0.mk H
        clear H
        go_wp2
        go_loopg [3, 4] kj1 (fun kq v3 v4 w' => ∃ (x3_2 : Int) (x4_2 : Int), v3 = .int .i64 x3_2 ∧ v4 = .int .i64 x4_2 ∧ Aside0 (geyserref14_Path.l0 kq a0 x3_2 x4_2 = some r) ∧ Aside0 (kq ≤ kj1) ∧ Drawn0 w w')
        case atStart => exact ⟨(0), (0), (by first | rfl | (simp; done) | (simp [*]; done)), (by first | rfl | (simp; done) | (simp [*]; done)), H', ⟨Nat.le_refl _⟩, by repeat (first | exact Drawn0.refl _ | apply Drawn0.step)⟩
        case round =>
          clear H'
          try clear c1
          try clear p2
          try clear c3
          try clear c3b0
          try clear c3b1
          try clear c4
          try clear c4b0
          try clear c4b1
          try clear c6
          try clear c6b0
          try clear c6b1
          try clear p6
          try clear c7
          try clear c7b0
          try clear c7b1
          try clear c8
          try clear p2
          try clear p6
          obtain ⟨x3_2, x4_2, rfl, rfl, HA, HK2, ⟨m2, rfl⟩⟩ := hrel
          cases gk with
          | zero => exact absurd HA.out (by simp [geyserref14_Path.l0])
          | succ k2 =>
            have H := HA.out
            clear HA
            simp only [geyserref14_Path.l0] at H
            by_cases c9 : x4_2 ≤ (a0.size : Int)
            · rw [if_pos c9] at H
              have c9b0 : decide (x4_2 ≤ (a0.size : Int)) = true := decide_eq_true c9
              clear c9
              have HC10 := Aside0.mk H
              clear H
              go_upto_region 7 with (fail)
              go_cut [38] (fun v38 wc => ∃ (kq : Nat) (x38_9 : Bool), v38 = .bool x38_9 ∧ Aside0 (geyserref14_Path.j2 kq a0 x3_2 x4_2 x38_9 = some r) ∧ Aside0 (kq ≤ k2) ∧ Drawn0 w wc)
              case first =>
                have H := HC10.out
                clear HC10
                by_cases c11 : x4_2 < (a0.size : Int)
                · rw [if_pos c11] at H
                  have c11b0 : decide (x4_2 < (a0.size : Int)) = true := decide_eq_true c11
                  clear c11
                  (first | rw [c11b0] | (simp only [i64_w, i32_w]; rw [c11b0]) | skip)
                  by_cases c12 : 0 ≤ x4_2
                  · rw [if_pos c12] at H
                    have c12b0 : decide (0 ≤ x4_2) = true := decide_eq_true c12
                    clear c12
                    have H' := Aside0.mk H
                    clear H
                    have p13 : 0 ≤ (x4_2 : Int) := of_decide_eq_true (by first | (with_reducible assumption) | assumption)
                    have q13 : x4_2 < (a0.size : Int) := of_decide_eq_true (by first | (with_reducible assumption) | assumption)
                    have hx13 := bt_at a0 x4_2
                    replace p13 := eq_true p13
                    replace q13 := eq_true q13
                    go_wp2
                    go_meet
                    case rel => exact ⟨_, (((bt a0 x4_2) != 47)), (by first | rfl | (simp; done) | (simp [*]; done)), H', ⟨by have := HJ1.out; have := HK2.out; first | omega | exact Nat.le_refl _⟩, by repeat (first | exact Drawn0.refl _ | apply Drawn0.step)⟩
                  · rw [if_neg c12] at H
                    exact absurd H (by simp)
                · rw [if_neg c11] at H
                  have c11b0 : decide (x4_2 < (a0.size : Int)) = false := decide_eq_false c11
                  clear c11
                  (first | rw [c11b0] | (simp only [i64_w, i32_w]; rw [c11b0]) | skip)
                  have H' := Aside0.mk H
                  clear H
                  go_wp2
                  go_meet
                  case rel => exact ⟨_, (false), (by first | rfl | (simp; done) | (simp [*]; done)), H', ⟨by have := HJ1.out; have := HK2.out; first | omega | exact Nat.le_refl _⟩, by repeat (first | exact Drawn0.refl _ | apply Drawn0.step)⟩
              case rest =>
                clear HC10
                try clear c1
                try clear p1
                try clear q1
                try clear hx1
                try clear p2
                try clear c3
                try clear c3b0
                try clear c3b1
                try clear c4
                try clear c4b0
                try clear c4b1
                try clear c6
                try clear c6b0
                try clear c6b1
                try clear p6
                try clear c7
                try clear c7b0
                try clear c7b1
                try clear c8
                try clear c9
                try clear c9b0
                try clear c11
                try clear c11b0
                try clear c12
                try clear c12b0
                try clear p13
                try clear q13
                try clear hx13
                try clear p13
                try clear p2
                try clear p6
                try clear q13
                obtain ⟨kq, x38_9, rfl, HA, HJ9, ⟨mc9, rfl⟩⟩ := hcut
                cases kq with
                | zero => exact absurd HA.out (by simp [geyserref14_Path.j2])
                | succ kj9 =>
                  have H := HA.out
                  clear HA
                  simp only [geyserref14_Path.j2] at H
                  by_cases c14 : x38_9 = true
                  · subst c14
                    have H1 : (if 0 ≤ x4_2 then (if x4_2 < (a0.size : Int) then (if (bt a0 x4_2) ≥ 97 then (if (bt a0 x4_2) ≤ 122 then (geyserref14_Path.j3 kj9 a0 x3_2 x4_2 (!true)) else (if (bt a0 x4_2) ≥ 48 then (if (bt a0 x4_2) ≤ 57 then (geyserref14_Path.j3 kj9 a0 x3_2 x4_2 (!true)) else (if (bt a0 x4_2) = 46 then (geyserref14_Path.j3 kj9 a0 x3_2 x4_2 (!true)) else (if (bt a0 x4_2) = 95 then (geyserref14_Path.j3 kj9 a0 x3_2 x4_2 (!true)) else (geyserref14_Path.j3 kj9 a0 x3_2 x4_2 (!((bt a0 x4_2) == 45)))))) else (if (bt a0 x4_2) = 46 then (geyserref14_Path.j3 kj9 a0 x3_2 x4_2 (!true)) else (if (bt a0 x4_2) = 95 then (geyserref14_Path.j3 kj9 a0 x3_2 x4_2 (!true)) else (geyserref14_Path.j3 kj9 a0 x3_2 x4_2 (!((bt a0 x4_2) == 45))))))) else (if (bt a0 x4_2) ≥ 48 then (if (bt a0 x4_2) ≤ 57 then (geyserref14_Path.j3 kj9 a0 x3_2 x4_2 (!true)) else (if (bt a0 x4_2) = 46 then (geyserref14_Path.j3 kj9 a0 x3_2 x4_2 (!true)) else (if (bt a0 x4_2) = 95 then (geyserref14_Path.j3 kj9 a0 x3_2 x4_2 (!true)) else (geyserref14_Path.j3 kj9 a0 x3_2 x4_2 (!((bt a0 x4_2) == 45)))))) else (if (bt a0 x4_2) = 46 then (geyserref14_Path.j3 kj9 a0 x3_2 x4_2 (!true)) else (if (bt a0 x4_2) = 95 then (geyserref14_Path.j3 kj9 a0 x3_2 x4_2 (!true)) else (geyserref14_Path.j3 kj9 a0 x3_2 x4_2 (!((bt a0 x4_2) == 45))))))) else (none)) else (none)) = some r := by rw [if_pos rfl] at H; exact H
                    clear H
                    have H := H1
                    clear H1
                    by_cases c15 : 0 ≤ x4_2
                    · rw [if_pos c15] at H
                      have c15b0 : decide (0 ≤ x4_2) = true := decide_eq_true c15
                      clear c15
                      by_cases c16 : x4_2 < (a0.size : Int)
                      · rw [if_pos c16] at H
                        have c16b0 : decide (x4_2 < (a0.size : Int)) = true := decide_eq_true c16
                        clear c16
                        have HC18 := Aside0.mk H
                        clear H
                        have p17 : 0 ≤ (x4_2 : Int) := of_decide_eq_true (by first | (with_reducible assumption) | assumption)
                        have q17 : x4_2 < (a0.size : Int) := of_decide_eq_true (by first | (with_reducible assumption) | assumption)
                        have hx17 := bt_at a0 x4_2
                        replace p17 := eq_true p17
                        replace q17 := eq_true q17
                        go_upto_region 9 with (fail)
                        go_cut [68] (fun v68 wc => ∃ (kq : Nat) (x68_17 : Bool), v68 = .bool x68_17 ∧ Aside0 (geyserref14_Path.j3 kq a0 x3_2 x4_2 x68_17 = some r) ∧ Aside0 (kq ≤ kj9) ∧ Drawn0 w wc)
                        case first =>
                          have H := HC18.out
                          clear HC18
                          by_cases c19 : (bt a0 x4_2) ≥ 97
                          · rw [if_pos c19] at H
                            have c19b0 : decide (97 ≤ (bt a0 x4_2)) = true := decide_eq_true c19
                            clear c19
                            (first | rw [c19b0] | (simp only [i64_w, i32_w]; rw [c19b0]) | skip)
                            by_cases c20 : (bt a0 x4_2) ≤ 122
                            · rw [if_pos c20] at H
                              have c20b0 : decide ((bt a0 x4_2) ≤ 122) = true := decide_eq_true c20
                              clear c20
                              have H' := Aside0.mk H
                              clear H
                              go_wp2
                              go_meet
                              case rel => exact ⟨_, (!true), (by first | rfl | (simp; done) | (simp [*]; done)), H', ⟨by have := HJ1.out; have := HK2.out; have := HJ9.out; first | omega | exact Nat.le_refl _⟩, by repeat (first | exact Drawn0.refl _ | apply Drawn0.step)⟩
                            · rw [if_neg c20] at H
                              have c20b0 : decide ((bt a0 x4_2) ≤ 122) = false := decide_eq_false c20
                              clear c20
                              by_cases c21 : (bt a0 x4_2) ≥ 48
                              · rw [if_pos c21] at H
                                have c21b0 : decide (48 ≤ (bt a0 x4_2)) = true := decide_eq_true c21
                                clear c21
                                by_cases c22 : (bt a0 x4_2) ≤ 57
                                · rw [if_pos c22] at H
                                  have c22b0 : decide ((bt a0 x4_2) ≤ 57) = true := decide_eq_true c22
                                  clear c22
                                  have H' := Aside0.mk H
                                  clear H
                                  go_wp2
                                  go_meet
                                  case rel => exact ⟨_, (!true), (by first | rfl | (simp; done) | (simp [*]; done)), H', ⟨by have := HJ1.out; have := HK2.out; have := HJ9.out; first | omega | exact Nat.le_refl _⟩, by repeat (first | exact Drawn0.refl _ | apply Drawn0.step)⟩
                                · rw [if_neg c22] at H
                                  have c22b0 : decide ((bt a0 x4_2) ≤ 57) = false := decide_eq_false c22
                                  clear c22
                                  by_cases c23 : (bt a0 x4_2) = 46
                                  · rw [if_pos c23] at H
                                    have c23b0 : ((bt a0 x4_2) == 46) = true := beq_iff_eq.mpr c23
                                    have c23b1 : ((bt a0 x4_2) != 46) = false := bne_eq_false_iff_eq.mpr c23
                                    clear c23
                                    have H' := Aside0.mk H
                                    clear H
                                    go_wp2
                                    go_meet
                                    case rel => exact ⟨_, (!true), (by first | rfl | (simp; done) | (simp [*]; done)), H', ⟨by have := HJ1.out; have := HK2.out; have := HJ9.out; first | omega | exact Nat.le_refl _⟩, by repeat (first | exact Drawn0.refl _ | apply Drawn0.step)⟩
                                  · rw [if_neg c23] at H
                                    have c23b0 : ((bt a0 x4_2) == 46) = false := beq_eq_false_iff_ne.mpr c23
                                    have c23b1 : ((bt a0 x4_2) != 46) = true := bne_iff_ne.mpr c23
                                    by_cases c24 : (bt a0 x4_2) = 95
                                    · rw [if_pos c24] at H
                                      have c24b0 : ((bt a0 x4_2) == 95) = true := beq_iff_eq.mpr c24
                                      have c24b1 : ((bt a0 x4_2) != 95) = false := bne_eq_false_iff_eq.mpr c24
                                      clear c24
                                      have H' := Aside0.mk H
                                      clear H
                                      go_wp2
                                      go_meet
                                      case rel => exact ⟨_, (!true), (by first | rfl | (simp; done) | (simp [*]; done)), H', ⟨by have := HJ1.out; have := HK2.out; have := HJ9.out; first | omega | exact Nat.le_refl _⟩, by repeat (first | exact Drawn0.refl _ | apply Drawn0.step)⟩
                                    · rw [if_neg c24] at H
                                      have c24b0 : ((bt a0 x4_2) == 95) = false := beq_eq_false_iff_ne.mpr c24
                                      have c24b1 : ((bt a0 x4_2) != 95) = true := bne_iff_ne.mpr c24
                                      have H' := Aside0.mk H
                                      clear H
                                      go_wp2
                                      go_meet
                                      case rel => exact ⟨_, (!((bt a0 x4_2) == 45)), (by first | rfl | (simp; done) | (simp [*]; done)), H', ⟨by have := HJ1.out; have := HK2.out; have := HJ9.out; first | omega | exact Nat.le_refl _⟩, by repeat (first | exact Drawn0.refl _ | apply Drawn0.step)⟩
                              · rw [if_neg c21] at H
                                have c21b0 : decide (48 ≤ (bt a0 x4_2)) = false := decide_eq_false c21
                                clear c21
                                by_cases c25 : (bt a0 x4_2) = 46
                                · rw [if_pos c25] at H
                                  have c25b0 : ((bt a0 x4_2) == 46) = true := beq_iff_eq.mpr c25
                                  have c25b1 : ((bt a0 x4_2) != 46) = false := bne_eq_false_iff_eq.mpr c25
                                  clear c25
                                  have H' := Aside0.mk H
                                  clear H
                                  go_wp2
                                  go_meet
                                  case rel => exact ⟨_, (!true), (by first | rfl | (simp; done) | (simp [*]; done)), H', ⟨by have := HJ1.out; have := HK2.out; have := HJ9.out; first | omega | exact Nat.le_refl _⟩, by repeat (first | exact Drawn0.refl _ | apply Drawn0.step)⟩
                                · rw [if_neg c25] at H
                                  have c25b0 : ((bt a0 x4_2) == 46) = false := beq_eq_false_iff_ne.mpr c25
                                  have c25b1 : ((bt a0 x4_2) != 46) = true := bne_iff_ne.mpr c25
                                  by_cases c26 : (bt a0 x4_2) = 95
                                  · rw [if_pos c26] at H
                                    have c26b0 : ((bt a0 x4_2) == 95) = true := beq_iff_eq.mpr c26
                                    have c26b1 : ((bt a0 x4_2) != 95) = false := bne_eq_false_iff_eq.mpr c26
                                    clear c26
                                    have H' := Aside0.mk H
                                    clear H
                                    go_wp2
                                    go_meet
                                    case rel => exact ⟨_, (!true), (by first | rfl | (simp; done) | (simp [*]; done)), H', ⟨by have := HJ1.out; have := HK2.out; have := HJ9.out; first | omega | exact Nat.le_refl _⟩, by repeat (first | exact Drawn0.refl _ | apply Drawn0.step)⟩
                                  · rw [if_neg c26] at H
                                    have c26b0 : ((bt a0 x4_2) == 95) = false := beq_eq_false_iff_ne.mpr c26
                                    have c26b1 : ((bt a0 x4_2) != 95) = true := bne_iff_ne.mpr c26
                                    have H' := Aside0.mk H
                                    clear H
                                    go_wp2
                                    go_meet
                                    case rel => exact ⟨_, (!((bt a0 x4_2) == 45)), (by first | rfl | (simp; done) | (simp [*]; done)), H', ⟨by have := HJ1.out; have := HK2.out; have := HJ9.out; first | omega | exact Nat.le_refl _⟩, by repeat (first | exact Drawn0.refl _ | apply Drawn0.step)⟩
                          · rw [if_neg c19] at H
                            have c19b0 : decide (97 ≤ (bt a0 x4_2)) = false := decide_eq_false c19
                            clear c19
                            (first | rw [c19b0] | (simp only [i64_w, i32_w]; rw [c19b0]) | skip)
                            by_cases c27 : (bt a0 x4_2) ≥ 48
                            · rw [if_pos c27] at H
                              have c27b0 : decide (48 ≤ (bt a0 x4_2)) = true := decide_eq_true c27
                              clear c27
                              by_cases c28 : (bt a0 x4_2) ≤ 57
                              · rw [if_pos c28] at H
                                have c28b0 : decide ((bt a0 x4_2) ≤ 57) = true := decide_eq_true c28
                                clear c28
                                have H' := Aside0.mk H
                                clear H
                                go_wp2
                                go_meet
                                case rel => exact ⟨_, (!true), (by first | rfl | (simp; done) | (simp [*]; done)), H', ⟨by have := HJ1.out; have := HK2.out; have := HJ9.out; first | omega | exact Nat.le_refl _⟩, by repeat (first | exact Drawn0.refl _ | apply Drawn0.step)⟩
                              · rw [if_neg c28] at H
                                have c28b0 : decide ((bt a0 x4_2) ≤ 57) = false := decide_eq_false c28
                                clear c28
                                by_cases c29 : (bt a0 x4_2) = 46
                                · rw [if_pos c29] at H
                                  have c29b0 : ((bt a0 x4_2) == 46) = true := beq_iff_eq.mpr c29
                                  have c29b1 : ((bt a0 x4_2) != 46) = false := bne_eq_false_iff_eq.mpr c29
                                  clear c29
                                  have H' := Aside0.mk H
                                  clear H
                                  go_wp2
                                  go_meet
                                  case rel => exact ⟨_, (!true), (by first | rfl | (simp; done) | (simp [*]; done)), H', ⟨by have := HJ1.out; have := HK2.out; have := HJ9.out; first | omega | exact Nat.le_refl _⟩, by repeat (first | exact Drawn0.refl _ | apply Drawn0.step)⟩
                                · rw [if_neg c29] at H
                                  have c29b0 : ((bt a0 x4_2) == 46) = false := beq_eq_false_iff_ne.mpr c29
                                  have c29b1 : ((bt a0 x4_2) != 46) = true := bne_iff_ne.mpr c29
                                  by_cases c30 : (bt a0 x4_2) = 95
                                  · rw [if_pos c30] at H
                                    have c30b0 : ((bt a0 x4_2) == 95) = true := beq_iff_eq.mpr c30
                                    have c30b1 : ((bt a0 x4_2) != 95) = false := bne_eq_false_iff_eq.mpr c30
                                    clear c30
                                    have H' := Aside0.mk H
                                    clear H
                                    go_wp2
                                    go_meet
                                    case rel => exact ⟨_, (!true), (by first | rfl | (simp; done) | (simp [*]; done)), H', ⟨by have := HJ1.out; have := HK2.out; have := HJ9.out; first | omega | exact Nat.le_refl _⟩, by repeat (first | exact Drawn0.refl _ | apply Drawn0.step)⟩
                                  · rw [if_neg c30] at H
                                    have c30b0 : ((bt a0 x4_2) == 95) = false := beq_eq_false_iff_ne.mpr c30
                                    have c30b1 : ((bt a0 x4_2) != 95) = true := bne_iff_ne.mpr c30
                                    have H' := Aside0.mk H
                                    clear H
                                    go_wp2
                                    go_meet
                                    case rel => exact ⟨_, (!((bt a0 x4_2) == 45)), (by first | rfl | (simp; done) | (simp [*]; done)), H', ⟨by have := HJ1.out; have := HK2.out; have := HJ9.out; first | omega | exact Nat.le_refl _⟩, by repeat (first | exact Drawn0.refl _ | apply Drawn0.step)⟩
                            · rw [if_neg c27] at H
                              have c27b0 : decide (48 ≤ (bt a0 x4_2)) = false := decide_eq_false c27
                              clear c27
                              by_cases c31 : (bt a0 x4_2) = 46
                              · rw [if_pos c31] at H
                                have c31b0 : ((bt a0 x4_2) == 46) = true := beq_iff_eq.mpr c31
                                have c31b1 : ((bt a0 x4_2) != 46) = false := bne_eq_false_iff_eq.mpr c31
                                clear c31
                                have H' := Aside0.mk H
                                clear H
                                go_wp2
                                go_meet
                                case rel => exact ⟨_, (!true), (by first | rfl | (simp; done) | (simp [*]; done)), H', ⟨by have := HJ1.out; have := HK2.out; have := HJ9.out; first | omega | exact Nat.le_refl _⟩, by repeat (first | exact Drawn0.refl _ | apply Drawn0.step)⟩
                              · rw [if_neg c31] at H
                                have c31b0 : ((bt a0 x4_2) == 46) = false := beq_eq_false_iff_ne.mpr c31
                                have c31b1 : ((bt a0 x4_2) != 46) = true := bne_iff_ne.mpr c31
                                by_cases c32 : (bt a0 x4_2) = 95
                                · rw [if_pos c32] at H
                                  have c32b0 : ((bt a0 x4_2) == 95) = true := beq_iff_eq.mpr c32
                                  have c32b1 : ((bt a0 x4_2) != 95) = false := bne_eq_false_iff_eq.mpr c32
                                  clear c32
                                  have H' := Aside0.mk H
                                  clear H
                                  go_wp2
                                  go_meet
                                  case rel => exact ⟨_, (!true), (by first | rfl | (simp; done) | (simp [*]; done)), H', ⟨by have := HJ1.out; have := HK2.out; have := HJ9.out; first | omega | exact Nat.le_refl _⟩, by repeat (first | exact Drawn0.refl _ | apply Drawn0.step)⟩
                                · rw [if_neg c32] at H
                                  have c32b0 : ((bt a0 x4_2) == 95) = false := beq_eq_false_iff_ne.mpr c32
                                  have c32b1 : ((bt a0 x4_2) != 95) = true := bne_iff_ne.mpr c32
                                  have H' := Aside0.mk H
                                  clear H
                                  go_wp2
                                  go_meet
                                  case rel => exact ⟨_, (!((bt a0 x4_2) == 45)), (by first | rfl | (simp; done) | (simp [*]; done)), H', ⟨by have := HJ1.out; have := HK2.out; have := HJ9.out; first | omega | exact Nat.le_refl _⟩, by repeat (first | exact Drawn0.refl _ | apply Drawn0.step)⟩
                        case rest =>
                          clear HC18
                          try clear c1
                          try clear p1
                          try clear q1
                          try clear hx1
                          try clear c2
                          try clear p2
                          try clear c3
                          try clear c3b0
                          try clear c3b1
                          try clear c4
                          try clear c4b0
                          try clear c4b1
                          try clear c6
                          try clear c6b0
                          try clear c6b1
                          try clear p6
                          try clear c7
                          try clear c7b0
                          try clear c7b1
                          try clear c8
                          try clear c9
                          try clear c9b0
                          try clear c11
                          try clear c11b0
                          try clear c12
                          try clear c12b0
                          try clear p13
                          try clear q13
                          try clear hx13
                          try clear c14
                          try clear c15
                          try clear c15b0
                          try clear c16
                          try clear c16b0
                          try clear p17
                          try clear q17
                          try clear hx17
                          try clear c19
                          try clear c19b0
                          try clear c20
                          try clear c20b0
                          try clear c21
                          try clear c21b0
                          try clear c22
                          try clear c22b0
                          try clear c23
                          try clear c23b0
                          try clear c23b1
                          try clear c24
                          try clear c24b0
                          try clear c24b1
                          try clear c25
                          try clear c25b0
                          try clear c25b1
                          try clear c26
                          try clear c26b0
                          try clear c26b1
                          try clear c27
                          try clear c27b0
                          try clear c28
                          try clear c28b0
                          try clear c29
                          try clear c29b0
                          try clear c29b1
                          try clear c30
                          try clear c30b0
                          try clear c30b1
                          try clear c31
                          try clear c31b0
                          try clear c31b1
                          try clear c32
                          try clear c32b0
                          try clear c32b1
                          try clear p1
                          try clear p13
                          try clear p17
                          try clear p2
                          try clear p6
                          try clear q1
                          try clear q13
                          try clear q17
                          obtain ⟨kq, x68_17, rfl, HA, HJ17, ⟨mc17, rfl⟩⟩ := hcut
                          cases kq with
                          | zero => exact absurd HA.out (by simp [geyserref14_Path.j3])
                          | succ kj17 =>
                            have H := HA.out
                            clear HA
                            simp only [geyserref14_Path.j3] at H
                            by_cases c33 : x68_17 = true
                            · subst c33
                              have H1 : (some false) = some r := by rw [if_pos rfl] at H; exact H
                              clear H
                              have H := H1
                              clear H1
                              obtain rfl := Option.some.inj H
                              go_wp2
                              go_ret
                              exact ⟨by first | rfl | (simp; done) | (simp [*]; done), by repeat (first | exact Drawn0.refl _ | apply Drawn0.step)⟩
                            · replace c33 := Bool.eq_false_iff.mpr c33
                              subst c33
                              have H1 : (geyserref14_Path.l0 kj17 a0 x3_2 (wrap64 (x4_2 + 1))) = some r := by rw [if_neg (show ¬ (false = true) by decide)] at H; exact H
                              clear H
                              have H := H1
                              clear H1
                              have H' := Aside0.mk H
                              clear H
                              go_wp2
                              go_roundg kj17
                              case measure => have := HJ1.out; have := HK2.out; have := HJ9.out; have := HJ17.out; omega
                              case rel => exact ⟨(x3_2), (wrap64 (x4_2 + 1)), (by first | rfl | (simp; done) | (simp [*]; done)), (by first | rfl | (simp; done) | (simp [*]; done)), H', ⟨by have := HJ1.out; have := HK2.out; have := HJ9.out; have := HJ17.out; omega⟩, by repeat (first | exact Drawn0.refl _ | apply Drawn0.step)⟩
                      · rw [if_neg c16] at H
                        exact absurd H (by simp)
                    · rw [if_neg c15] at H
                      exact absurd H (by simp)
                  · replace c14 := Bool.eq_false_iff.mpr c14
                    subst c14
                    have H1 : (if 0 ≤ x3_2 then (if x3_2 ≤ x4_2 then (if x4_2 ≤ (a0.size : Int) then (if (a0.extract (x3_2 : Int).toNat (x4_2 : Int).toNat).toList = ([] : List UInt8) then (some false) else (if (a0.extract (x3_2 : Int).toNat (x4_2 : Int).toNat).toList = ([46] : List UInt8) then (some false) else (if (a0.extract (x3_2 : Int).toNat (x4_2 : Int).toNat).toList = ([46, 46] : List UInt8) then (some false) else (if x3_2 = 0 then (if (a0.extract (x3_2 : Int).toNat (x4_2 : Int).toNat).toList = ([111, 108, 100] : List UInt8) then (some false) else (if (a0.extract (x3_2 : Int).toNat (x4_2 : Int).toNat).toList = ([116, 109, 112] : List UInt8) then (some false) else (geyserref14_Path.l0 kj9 a0 (wrap64 (x4_2 + 1)) (wrap64 (x4_2 + 1))))) else (geyserref14_Path.l0 kj9 a0 (wrap64 (x4_2 + 1)) (wrap64 (x4_2 + 1))))))) else (none)) else (none)) else (none)) = some r := by rw [if_neg (show ¬ (false = true) by decide)] at H; exact H
                    clear H
                    have H := H1
                    clear H1
                    by_cases c34 : 0 ≤ x3_2
                    · rw [if_pos c34] at H
                      have c34b0 := eq_true c34
                      have c34b1 : decide (0 ≤ x3_2) = true := decide_eq_true c34
                      clear c34
                      by_cases c35 : x3_2 ≤ x4_2
                      · rw [if_pos c35] at H
                        have c35b0 := eq_true c35
                        have c35b1 : decide (x3_2 ≤ x4_2) = true := decide_eq_true c35
                        clear c35
                        by_cases c36 : x4_2 ≤ (a0.size : Int)
                        · rw [if_pos c36] at H
                          have c36b0 := eq_true c36
                          have c36b1 : decide (x4_2 ≤ (a0.size : Int)) = true := decide_eq_true c36
                          clear c36
                          by_cases c37 : (a0.extract (x3_2 : Int).toNat (x4_2 : Int).toNat).toList = ([] : List UInt8)
                          · rw [if_pos c37] at H
                            have c37b0 : ((a0.extract (x3_2 : Int).toNat (x4_2 : Int).toNat).toList == ([] : List UInt8)) = true := beq_iff_eq.mpr c37
                            have c37b1 : ((a0.extract (x3_2 : Int).toNat (x4_2 : Int).toNat).toList != ([] : List UInt8)) = false := bne_eq_false_iff_eq.mpr c37
                            clear c37
                            obtain rfl := Option.some.inj H
                            go_wp2
                            go_ret
                            exact ⟨by first | rfl | (simp; done) | (simp [*]; done), by repeat (first | exact Drawn0.refl _ | apply Drawn0.step)⟩
                          · rw [if_neg c37] at H
                            have c37b0 : ((a0.extract (x3_2 : Int).toNat (x4_2 : Int).toNat).toList == ([] : List UInt8)) = false := beq_eq_false_iff_ne.mpr c37
                            have c37b1 : ((a0.extract (x3_2 : Int).toNat (x4_2 : Int).toNat).toList != ([] : List UInt8)) = true := bne_iff_ne.mpr c37
                            by_cases c38 : (a0.extract (x3_2 : Int).toNat (x4_2 : Int).toNat).toList = ([46] : List UInt8)
                            · rw [if_pos c38] at H
                              have c38b0 : ((a0.extract (x3_2 : Int).toNat (x4_2 : Int).toNat).toList == ([46] : List UInt8)) = true := beq_iff_eq.mpr c38
                              have c38b1 : ((a0.extract (x3_2 : Int).toNat (x4_2 : Int).toNat).toList != ([46] : List UInt8)) = false := bne_eq_false_iff_eq.mpr c38
                              clear c38
                              obtain rfl := Option.some.inj H
                              go_wp2
                              go_ret
                              exact ⟨by first | rfl | (simp; done) | (simp [*]; done), by repeat (first | exact Drawn0.refl _ | apply Drawn0.step)⟩
                            · rw [if_neg c38] at H
                              have c38b0 : ((a0.extract (x3_2 : Int).toNat (x4_2 : Int).toNat).toList == ([46] : List UInt8)) = false := beq_eq_false_iff_ne.mpr c38
                              have c38b1 : ((a0.extract (x3_2 : Int).toNat (x4_2 : Int).toNat).toList != ([46] : List UInt8)) = true := bne_iff_ne.mpr c38
                              by_cases c39 : (a0.extract (x3_2 : Int).toNat (x4_2 : Int).toNat).toList = ([46, 46] : List UInt8)
                              · rw [if_pos c39] at H
                                have c39b0 : ((a0.extract (x3_2 : Int).toNat (x4_2 : Int).toNat).toList == ([46, 46] : List UInt8)) = true := beq_iff_eq.mpr c39
                                have c39b1 : ((a0.extract (x3_2 : Int).toNat (x4_2 : Int).toNat).toList != ([46, 46] : List UInt8)) = false := bne_eq_false_iff_eq.mpr c39
                                clear c39
                                obtain rfl := Option.some.inj H
                                go_wp2
                                go_ret
                                exact ⟨by first | rfl | (simp; done) | (simp [*]; done), by repeat (first | exact Drawn0.refl _ | apply Drawn0.step)⟩
                              · rw [if_neg c39] at H
                                have c39b0 : ((a0.extract (x3_2 : Int).toNat (x4_2 : Int).toNat).toList == ([46, 46] : List UInt8)) = false := beq_eq_false_iff_ne.mpr c39
                                have c39b1 : ((a0.extract (x3_2 : Int).toNat (x4_2 : Int).toNat).toList != ([46, 46] : List UInt8)) = true := bne_iff_ne.mpr c39
                                by_cases c40 : x3_2 = 0
                                · rw [if_pos c40] at H
                                  have c40b0 : (x3_2 == 0) = true := beq_iff_eq.mpr c40
                                  have c40b1 : (x3_2 != 0) = false := bne_eq_false_iff_eq.mpr c40
                                  clear c40
                                  by_cases c41 : (a0.extract (x3_2 : Int).toNat (x4_2 : Int).toNat).toList = ([111, 108, 100] : List UInt8)
                                  · rw [if_pos c41] at H
                                    have c41b0 : ((a0.extract (x3_2 : Int).toNat (x4_2 : Int).toNat).toList == ([111, 108, 100] : List UInt8)) = true := beq_iff_eq.mpr c41
                                    have c41b1 : ((a0.extract (x3_2 : Int).toNat (x4_2 : Int).toNat).toList != ([111, 108, 100] : List UInt8)) = false := bne_eq_false_iff_eq.mpr c41
                                    clear c41
                                    obtain rfl := Option.some.inj H
                                    go_wp2
                                    go_ret
                                    exact ⟨by first | rfl | (simp; done) | (simp [*]; done), by repeat (first | exact Drawn0.refl _ | apply Drawn0.step)⟩
                                  · rw [if_neg c41] at H
                                    have c41b0 : ((a0.extract (x3_2 : Int).toNat (x4_2 : Int).toNat).toList == ([111, 108, 100] : List UInt8)) = false := beq_eq_false_iff_ne.mpr c41
                                    have c41b1 : ((a0.extract (x3_2 : Int).toNat (x4_2 : Int).toNat).toList != ([111, 108, 100] : List UInt8)) = true := bne_iff_ne.mpr c41
                                    by_cases c42 : (a0.extract (x3_2 : Int).toNat (x4_2 : Int).toNat).toList = ([116, 109, 112] : List UInt8)
                                    · rw [if_pos c42] at H
                                      have c42b0 : ((a0.extract (x3_2 : Int).toNat (x4_2 : Int).toNat).toList == ([116, 109, 112] : List UInt8)) = true := beq_iff_eq.mpr c42
                                      have c42b1 : ((a0.extract (x3_2 : Int).toNat (x4_2 : Int).toNat).toList != ([116, 109, 112] : List UInt8)) = false := bne_eq_false_iff_eq.mpr c42
                                      clear c42
                                      obtain rfl := Option.some.inj H
                                      go_wp2
                                      go_ret
                                      exact ⟨by first | rfl | (simp; done) | (simp [*]; done), by repeat (first | exact Drawn0.refl _ | apply Drawn0.step)⟩
                                    · rw [if_neg c42] at H
                                      have c42b0 : ((a0.extract (x3_2 : Int).toNat (x4_2 : Int).toNat).toList == ([116, 109, 112] : List UInt8)) = false := beq_eq_false_iff_ne.mpr c42
                                      have c42b1 : ((a0.extract (x3_2 : Int).toNat (x4_2 : Int).toNat).toList != ([116, 109, 112] : List UInt8)) = true := bne_iff_ne.mpr c42
                                      have H' := Aside0.mk H
                                      clear H
                                      go_wp2
                                      go_roundg kj9
                                      case measure => have := HJ1.out; have := HK2.out; have := HJ9.out; omega
                                      case rel => exact ⟨(wrap64 (x4_2 + 1)), (wrap64 (x4_2 + 1)), (by first | rfl | (simp; done) | (simp [*]; done)), (by first | rfl | (simp; done) | (simp [*]; done)), H', ⟨by have := HJ1.out; have := HK2.out; have := HJ9.out; omega⟩, by repeat (first | exact Drawn0.refl _ | apply Drawn0.step)⟩
                                · rw [if_neg c40] at H
                                  have c40b0 : (x3_2 == 0) = false := beq_eq_false_iff_ne.mpr c40
                                  have c40b1 : (x3_2 != 0) = true := bne_iff_ne.mpr c40
                                  have H' := Aside0.mk H
                                  clear H
                                  go_wp2
                                  go_roundg kj9
                                  case measure => have := HJ1.out; have := HK2.out; have := HJ9.out; omega
                                  case rel => exact ⟨(wrap64 (x4_2 + 1)), (wrap64 (x4_2 + 1)), (by first | rfl | (simp; done) | (simp [*]; done)), (by first | rfl | (simp; done) | (simp [*]; done)), H', ⟨by have := HJ1.out; have := HK2.out; have := HJ9.out; omega⟩, by repeat (first | exact Drawn0.refl _ | apply Drawn0.step)⟩
                        · rw [if_neg c36] at H
                          exact absurd H (by simp)
                      · rw [if_neg c35] at H
                        exact absurd H (by simp)
                    · rw [if_neg c34] at H
                      exact absurd H (by simp)
            · rw [if_neg c9] at H
              have c9b0 : decide (x4_2 ≤ (a0.size : Int)) = false := decide_eq_false c9
              clear c9
              obtain rfl := Option.some.inj H
              go_wp2
              go_ret
              exact ⟨by first | rfl | (simp; done) | (simp [*]; done), by repeat (first | exact Drawn0.refl _ | apply Drawn0.step)⟩

/-! ### args_within: function 24 -/
def args_within.f (a0 : Int) (a1 : Int) (a2 : Int) : Option (Bool) := if a0 ≥ a1 then (some (decide (a0 ≤ a2))) else (some false)
set_option maxHeartbeats 8000000 in
set_option maxRecDepth 100000 in
theorem args_within.calls (a0 : Int) (a1 : Int) (a2 : Int) (r : Bool) (w : World) (h : args_within.f a0 a1 a2 = some r) :
    Calls Tryd.prog 24 #[.int .i64 a0, .int .i64 a1, .int .i64 a2] w fun e w' => e = .returned (.bool r) ∧ Drawn0 w w' := by
  have H : (if a0 ≥ a1 then (some (decide (a0 ≤ a2))) else (some false)) = some r := h
  clear h
  by_cases c4 : a0 ≥ a1
  · rw [if_pos c4] at H
    have c4b0 : decide (a1 ≤ a0) = true := decide_eq_true c4
    clear c4
    obtain rfl := Option.some.inj H
    go_enter Tryd.func24, Tryd.ntmps24
    go_wp2
    go_ret
    exact ⟨by first | rfl | (simp; done) | (simp [*]; done), by repeat (first | exact Drawn0.refl _ | apply Drawn0.step)⟩
  · rw [if_neg c4] at H
    have c4b0 : decide (a1 ≤ a0) = false := decide_eq_false c4
    clear c4
    obtain rfl := Option.some.inj H
    go_enter Tryd.func24, Tryd.ntmps24
    go_wp2
    go_ret
    exact ⟨by first | rfl | (simp; done) | (simp [*]; done), by repeat (first | exact Drawn0.refl _ | apply Drawn0.step)⟩

end Go.Proofs.YtfdfijohcapgaaaDoor.QPart
