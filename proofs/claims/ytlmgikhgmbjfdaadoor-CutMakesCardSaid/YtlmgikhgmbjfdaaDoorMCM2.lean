/- Machine-made by a program of this claim: functions of the Go program as Lean functions, and that its calls do what these say. Lean checks it. -/
import Derived.Test.YtlmgikhgmbjfdaaDoorMCM1
import Derived.Laws.Bits64
import Derived.Laws.Bits64b
import Derived.Laws.CopyOwn
import Derived.Deep.RegionWith
import Derived.StillTailTactics
import Derived.Deep.QuietTactic
import Derived.BigQuiet
import Derived.Deep.MidRow
import Derived.Lib.MinMax

namespace Go.Proofs.YtlmgikhgmbjfdaaDoor.QDig
open Go.RowKit Go.Proofs.YtlmgikhgmbjfdaaDoorW.PrintWords Go.Proofs.YtlmgikhgmbjfdaaDoorW.PrintLast Go.Proofs.YtlmgikhgmbjfdaaDoorW.PrintMore
attribute [local go_sem] max2_int min2_int max_two min_two max_three min_three max_four min_four   -- for this text's walks alone
set_option linter.unusedVariables false
set_option linter.unusedSimpArgs false

/-! ### sum_CRC: function 29 -/
def sum_CRC.l0 : Nat → Int → List Int → Int → Int → Option (Int)
  | 0, _, _, _, _ => none
  | k + 1, x3, x6, x7, x8 => if x8 < x7 then (if 0 ≤ x8 then (if x8 < (x6.length : Int) then ((sum_turn.f k (Go.bits .xor .u32 (Go.bits .andNot .u32 x3 255) ((Go.bits .xor .u8 ((x3) % 256) (rd x6 x8)) % 4294967296))).bind fun t127 => (sum_CRC.l0 k t127 x6 x7 (wrap64 (x8 + 1)))) else (none)) else (none)) else (some (Go.bits .xor .u32 4294967295 x3))
def sum_CRC.f (k : Nat) (l0 : List Int) : Option (Int) := sum_CRC.l0 k 4294967295 l0 (l0.length : Int) 0
theorem sum_CRC.mono_l : ∀ k, (∀ y0 y1 y2 y3, LeO (sum_CRC.l0 k y0 y1 y2 y3) (sum_CRC.l0 (k + 1) y0 y1 y2 y3))
  | 0 => fun _ _ _ _ r h => by simp [sum_CRC.l0] at h
  | k + 1 => by
    have ih0 := sum_CRC.mono_l k
    · intro y0 y1 y2 y3
      unfold sum_CRC.l0
      repeat' first
      | (with_reducible exact ih0 _ _ _ _)
      | (with_reducible exact sum_turn.mono _ _)
      | (with_reducible exact LeO.refl _)
      | (with_reducible exact LeO.none _)
      | (with_reducible refine LeO.ite ?_ ?_)
      | (with_reducible refine LeO.bind ?_ (fun _ => ?_))
      | exact ih0 _ _ _ _
      | exact sum_turn.mono _ _
      | exact LeO.none _
      | refine LeO.ite ?_ ?_
      | refine LeO.bind ?_ (fun _ => ?_)
theorem sum_CRC.mono : ∀ a0 k, LeO (sum_CRC.f k a0) (sum_CRC.f (k + 1) a0) := by
  intro a0 k
  have ih0 := sum_CRC.mono_l k
  unfold sum_CRC.f
  repeat' first
      | (with_reducible exact ih0 _ _ _ _)
      | (with_reducible exact sum_turn.mono _ _)
      | (with_reducible exact LeO.refl _)
      | (with_reducible exact LeO.none _)
      | (with_reducible refine LeO.ite ?_ ?_)
      | (with_reducible refine LeO.bind ?_ (fun _ => ?_))
      | exact ih0 _ _ _ _
      | exact sum_turn.mono _ _
      | exact LeO.none _
      | refine LeO.ite ?_ ?_
      | refine LeO.bind ?_ (fun _ => ?_)
set_option maxHeartbeats 8000000 in
set_option maxRecDepth 100000 in
theorem sum_CRC.calls (k : Nat) (A0 : Option Addr) (c0 : Nat) (l0 : List Int) (r : Int) (w : World) (hr0 : Kd.C (Kd.int .u8) w A0 l0.length l0) (hc0 : l0.length ≤ c0) (h : sum_CRC.f k l0 = some r) :
    Calls Tryd.prog 29 #[.slice A0 l0.length c0] w fun e w' => e = .returned (.int .u32 r) ∧ Drawn0 w w' := by
  have HR0 := Aside0.mk hr0
  have HC0 := Aside0.mk hc0
  clear hr0 hc0
  have H : (sum_CRC.l0 k 4294967295 l0 (l0.length : Int) 0) = some r := h
  clear h
  have H' := Aside0.mk H
  clear H
  go_enter Tryd.func29, Tryd.ntmps29
  go_wp2
  go_loopg [3, 8] k (fun kq v3 v8 w' => ∃ (x3_1 : Int) (x8_1 : Int), v3 = .int .u32 x3_1 ∧ v8 = .int .i64 x8_1 ∧ Aside0 (sum_CRC.l0 kq x3_1 l0 (l0.length : Int) x8_1 = some r) ∧ Aside0 (kq ≤ k) ∧ Drawn0 w w')
  case atStart => exact ⟨(4294967295), (0), (by first | rfl | (simp; done) | (simp [*]; done)), (by first | rfl | (simp; done) | (simp [*]; done)), H', ⟨Nat.le_refl _⟩, by repeat (first | exact Drawn0.refl _ | apply Drawn0.step)⟩
  case round =>
    clear H'
    obtain ⟨x3_1, x8_1, rfl, rfl, HA, HK1, ⟨m1, rfl⟩⟩ := hrel
    cases gk with
    | zero => exact absurd HA.out (by simp [sum_CRC.l0])
    | succ k1 =>
      have H := HA.out
      clear HA
      simp only [sum_CRC.l0] at H
      by_cases c2 : x8_1 < (l0.length : Int)
      · rw [if_pos c2] at H
        have c2b0 : decide (x8_1 < (l0.length : Int)) = true := decide_eq_true c2
        clear c2
        by_cases c3 : 0 ≤ x8_1
        · rw [if_pos c3] at H
          have c3b0 : decide (0 ≤ x8_1) = true := decide_eq_true c3
          clear c3
          by_cases c4 : x8_1 < (l0.length : Int)
          · rw [if_pos c4] at H
            have c4b0 : decide (x8_1 < (l0.length : Int)) = true := decide_eq_true c4
            clear c4
            replace H := Option.bind_eq_some_iff.mp H
            obtain ⟨t127, A50, H⟩ := H
            replace H : (sum_CRC.l0 k1 t127 l0 (l0.length : Int) (wrap64 (x8_1 + 1))) = some r := H
            have A5 := Aside0.mk A50
            clear A50
            have H' := Aside0.mk H
            clear H
            have p126 : 0 ≤ (x8_1 : Int) := of_decide_eq_true (by first | (with_reducible assumption) | assumption)
            have q126 : x8_1 < (l0.length : Int) := of_decide_eq_true (by first | (with_reducible assumption) | assumption)
            obtain ⟨ad126, e126, hx126_0⟩ := Kd.at_int HR0.out x8_1 p126 q126
            cases e126
            replace p126 := eq_true p126
            replace q126 := eq_true q126
            go_wp2_with (first | ((with_reducible refine gate_callee (f := 53) rfl ?_); refine goesL_ (some 21) rfl rfl Tryd.func53 (by kernel_rfl) rfl #[.int .u32 (Go.bits .xor .u32 (Go.bits .andNot .u32 x3_1 255) ((Go.bits .xor .u8 ((x3_1) % 256) (rd l0 x8_1)) % 4294967296))] rfl (by (try simp only [List.map_toArray, List.map_cons, List.map_nil]); first | done | rfl | (simp only [List.length_drop, List.length_take]; rfl)) ?_; (with_reducible refine (sum_turn.calls k1 (Go.bits .xor .u32 (Go.bits .andNot .u32 x3_1 255) ((Go.bits .xor .u8 ((x3_1) % 256) (rd l0 x8_1)) % 4294967296)) t127 _ A5.out).mono ?_); rintro e w' ⟨rfl, ⟨nd, rfl⟩⟩; refine ⟨_, rfl, ?_⟩))
            go_roundg k1
            case measure => have := HK1.out; omega
            case rel => exact ⟨(t127), (wrap64 (x8_1 + 1)), (by first | rfl | (simp; done) | (simp [*]; done)), (by first | rfl | (simp; done) | (simp [*]; done)), H', ⟨by have := HK1.out; omega⟩, by repeat (first | exact Drawn0.refl _ | apply Drawn0.step)⟩
          · rw [if_neg c4] at H
            exact absurd H (by simp)
        · rw [if_neg c3] at H
          exact absurd H (by simp)
      · rw [if_neg c2] at H
        have c2b0 : decide (x8_1 < (l0.length : Int)) = false := decide_eq_false c2
        clear c2
        obtain rfl := Option.some.inj H
        go_wp2
        go_ret
        exact ⟨by first | rfl | (simp; done) | (simp [*]; done), by repeat (first | exact Drawn0.refl _ | apply Drawn0.step)⟩

/-! ### geyserref01_CRC: function 11 -/
mutual
def geyserref01_CRC.l0 : Nat → List Int → Int → Int → Int → Option (Int)
  | 0, _, _, _, _ => none
  | k + 1, x0, x3, x8, x9 => if x9 < x8 then (geyserref01_CRC.l1 k x0 x3 x9 x8 x9 0) else (some ((Go.bits .xor .u64 x3 4294967295) % 4294967296))
def geyserref01_CRC.l1 : Nat → List Int → Int → Int → Int → Int → Int → Option (Int)
  | 0, _, _, _, _, _, _ => none
  | k + 1, x0, x3, x4, x8, x9, x12 => if x12 < 8 then (if 0 ≤ x4 then (if x4 < (x0.length : Int) then (if 0 ≤ (IntKind.u64.wrap (x12)) then (if (Go.bits .xor .u64 (Int.tmod x3 2) (IntKind.u64.wrap (Go.bits .and .u8 (shr .u8 (rd x0 x4) (IntKind.u64.wrap (x12))) 1))) = 1 then (geyserref01_CRC.l1 k x0 (Go.bits .xor .u64 (IntKind.u64.wrap (Int.tdiv x3 2)) 3988292384) x4 x8 x9 (wrap64 (x12 + 1))) else (geyserref01_CRC.l1 k x0 (IntKind.u64.wrap (Int.tdiv x3 2)) x4 x8 x9 (wrap64 (x12 + 1)))) else (none)) else (none)) else (none)) else (geyserref01_CRC.l0 k x0 x3 x8 (wrap64 (x9 + 1)))
end
def geyserref01_CRC.f (k : Nat) (l0 : List Int) : Option (Int) := geyserref01_CRC.l0 k l0 4294967295 (l0.length : Int) 0
theorem geyserref01_CRC.mono_l : ∀ k, (∀ y0 y1 y2 y3, LeO (geyserref01_CRC.l0 k y0 y1 y2 y3) (geyserref01_CRC.l0 (k + 1) y0 y1 y2 y3)) ∧ (∀ y0 y1 y2 y3 y4 y5, LeO (geyserref01_CRC.l1 k y0 y1 y2 y3 y4 y5) (geyserref01_CRC.l1 (k + 1) y0 y1 y2 y3 y4 y5))
  | 0 => ⟨fun _ _ _ _ r h => by simp [geyserref01_CRC.l0] at h, fun _ _ _ _ _ _ r h => by simp [geyserref01_CRC.l1] at h⟩
  | k + 1 => by
    obtain ⟨ih0, ih1⟩ := geyserref01_CRC.mono_l k
    refine ⟨?_, ?_⟩
    · intro y0 y1 y2 y3
      unfold geyserref01_CRC.l0
      repeat' first
      | (with_reducible exact ih0 _ _ _ _)
      | (with_reducible exact ih1 _ _ _ _ _ _)
      | (with_reducible exact LeO.refl _)
      | (with_reducible exact LeO.none _)
      | (with_reducible refine LeO.ite ?_ ?_)
      | (with_reducible refine LeO.bind ?_ (fun _ => ?_))
      | exact ih0 _ _ _ _
      | exact ih1 _ _ _ _ _ _
      | exact LeO.none _
      | refine LeO.ite ?_ ?_
      | refine LeO.bind ?_ (fun _ => ?_)
    · intro y0 y1 y2 y3 y4 y5
      unfold geyserref01_CRC.l1
      repeat' first
      | (with_reducible exact ih0 _ _ _ _)
      | (with_reducible exact ih1 _ _ _ _ _ _)
      | (with_reducible exact LeO.refl _)
      | (with_reducible exact LeO.none _)
      | (with_reducible refine LeO.ite ?_ ?_)
      | (with_reducible refine LeO.bind ?_ (fun _ => ?_))
      | exact ih0 _ _ _ _
      | exact ih1 _ _ _ _ _ _
      | exact LeO.none _
      | refine LeO.ite ?_ ?_
      | refine LeO.bind ?_ (fun _ => ?_)
theorem geyserref01_CRC.mono : ∀ a0 k, LeO (geyserref01_CRC.f k a0) (geyserref01_CRC.f (k + 1) a0) := by
  intro a0 k
  obtain ⟨ih0, ih1⟩ := geyserref01_CRC.mono_l k
  unfold geyserref01_CRC.f
  repeat' first
      | (with_reducible exact ih0 _ _ _ _)
      | (with_reducible exact ih1 _ _ _ _ _ _)
      | (with_reducible exact LeO.refl _)
      | (with_reducible exact LeO.none _)
      | (with_reducible refine LeO.ite ?_ ?_)
      | (with_reducible refine LeO.bind ?_ (fun _ => ?_))
      | exact ih0 _ _ _ _
      | exact ih1 _ _ _ _ _ _
      | exact LeO.none _
      | refine LeO.ite ?_ ?_
      | refine LeO.bind ?_ (fun _ => ?_)
set_option maxHeartbeats 8000000 in
set_option maxRecDepth 100000 in
theorem geyserref01_CRC.calls (k : Nat) (A0 : Option Addr) (c0 : Nat) (l0 : List Int) (r : Int) (w : World) (hr0 : Kd.C (Kd.int .u8) w A0 l0.length l0) (hc0 : l0.length ≤ c0) (h : geyserref01_CRC.f k l0 = some r) :
    Calls Tryd.prog 11 #[.slice A0 l0.length c0] w fun e w' => e = .returned (.int .u32 r) ∧ Drawn0 w w' := by
  have HR0 := Aside0.mk hr0
  have HC0 := Aside0.mk hc0
  clear hr0 hc0
  have H : (geyserref01_CRC.l0 k l0 4294967295 (l0.length : Int) 0) = some r := h
  clear h
  have H' := Aside0.mk H
  clear H
  go_enter Tryd.func11, Tryd.ntmps11
  go_wp2
  go_loopg [3, 9] k (fun kq v3 v9 w' => ∃ (x3_1 : Int) (x9_1 : Int), v3 = .int .u64 x3_1 ∧ v9 = .int .i64 x9_1 ∧ Aside0 (geyserref01_CRC.l0 kq l0 x3_1 (l0.length : Int) x9_1 = some r) ∧ Aside0 (kq ≤ k) ∧ Drawn0 w w')
  case atStart => exact ⟨(4294967295), (0), (by first | rfl | (simp; done) | (simp [*]; done)), (by first | rfl | (simp; done) | (simp [*]; done)), H', ⟨Nat.le_refl _⟩, by repeat (first | exact Drawn0.refl _ | apply Drawn0.step)⟩
  case round =>
    clear H'
    try clear c1
    obtain ⟨x3_1, x9_1, rfl, rfl, HA, HK1, ⟨m1, rfl⟩⟩ := hrel
    cases gk with
    | zero => exact absurd HA.out (by simp [geyserref01_CRC.l0])
    | succ k1 =>
      have H := HA.out
      clear HA
      simp only [geyserref01_CRC.l0] at H
      by_cases c2 : x9_1 < (l0.length : Int)
      · rw [if_pos c2] at H
        have c2b0 : decide (x9_1 < (l0.length : Int)) = true := decide_eq_true c2
        clear c2
        have H' := Aside0.mk H
        clear H
        go_wp2
        go_loopg [3, 12] k1 (fun kq v3 v12 w' => ∃ (x3_2 : Int) (x12_2 : Int), v3 = .int .u64 x3_2 ∧ v12 = .int .i64 x12_2 ∧ Aside0 (geyserref01_CRC.l1 kq l0 x3_2 x9_1 (l0.length : Int) x9_1 x12_2 = some r) ∧ Aside0 (kq ≤ k1) ∧ Drawn0 w w')
        case atStart => exact ⟨(x3_1), (0), (by first | rfl | (simp; done) | (simp [*]; done)), (by first | rfl | (simp; done) | (simp [*]; done)), H', ⟨Nat.le_refl _⟩, by repeat (first | exact Drawn0.refl _ | apply Drawn0.step)⟩
        case round =>
          clear H'
          try clear c1
          try clear c2
          try clear c2b0
          try clear p2
          obtain ⟨x3_2, x12_2, rfl, rfl, HA, HK2, ⟨m2, rfl⟩⟩ := hrel
          cases gk with
          | zero => exact absurd HA.out (by simp [geyserref01_CRC.l1])
          | succ k2 =>
            have H := HA.out
            clear HA
            simp only [geyserref01_CRC.l1] at H
            by_cases c3 : x12_2 < 8
            · rw [if_pos c3] at H
              have c3b0 : decide (x12_2 < 8) = true := decide_eq_true c3
              clear c3
              by_cases c4 : 0 ≤ x9_1
              · rw [if_pos c4] at H
                have c4b0 : decide (0 ≤ x9_1) = true := decide_eq_true c4
                clear c4
                by_cases c5 : x9_1 < (l0.length : Int)
                · rw [if_pos c5] at H
                  have c5b0 : decide (x9_1 < (l0.length : Int)) = true := decide_eq_true c5
                  clear c5
                  obtain ⟨ji6, hji6⟩ : ∃ j_ : Int, (IntKind.u64.wrap (x12_2)) = j_ := ⟨_, rfl⟩
                  replace H : (if 0 ≤ (ji6) then (if (Go.bits .xor .u64 (Int.tmod x3_2 2) (IntKind.u64.wrap (Go.bits .and .u8 (shr .u8 (rd l0 x9_1) (ji6)) 1))) = 1 then (geyserref01_CRC.l1 k2 l0 (Go.bits .xor .u64 (IntKind.u64.wrap (Int.tdiv x3_2 2)) 3988292384) x9_1 (l0.length : Int) x9_1 (wrap64 (x12_2 + 1))) else (geyserref01_CRC.l1 k2 l0 (IntKind.u64.wrap (Int.tdiv x3_2 2)) x9_1 (l0.length : Int) x9_1 (wrap64 (x12_2 + 1)))) else (none)) = some r := by first | (rw [hji6] at H; exact H) | (simp only [hji6] at H ⊢; exact H)
                  by_cases c7 : 0 ≤ (ji6)
                  · rw [if_pos c7] at H
                    have c7b0 := eq_true c7
                    have c7b1 : decide (0 ≤ (ji6)) = true := decide_eq_true c7
                    clear c7
                    obtain ⟨ji8, hji8⟩ : ∃ j_ : Int, (shr .u8 (rd l0 x9_1) (ji6)) = j_ := ⟨_, rfl⟩
                    replace H : (if (Go.bits .xor .u64 (Int.tmod x3_2 2) (IntKind.u64.wrap (Go.bits .and .u8 (ji8) 1))) = 1 then (geyserref01_CRC.l1 k2 l0 (Go.bits .xor .u64 (IntKind.u64.wrap (Int.tdiv x3_2 2)) 3988292384) x9_1 (l0.length : Int) x9_1 (wrap64 (x12_2 + 1))) else (geyserref01_CRC.l1 k2 l0 (IntKind.u64.wrap (Int.tdiv x3_2 2)) x9_1 (l0.length : Int) x9_1 (wrap64 (x12_2 + 1)))) = some r := by first | (rw [hji8] at H; exact H) | (simp only [hji8] at H ⊢; exact H)
                    have hji8_ : ((rd l0 x9_1) / 2 ^ min (ji6).toNat 8) = ji8 := hji8
                    have hji8z : (ji6) ≤ 8 → ((rd l0 x9_1) / 2 ^ (ji6).toNat) = ji8 := shr_small hji8
                    by_cases c9 : (Go.bits .xor .u64 (Int.tmod x3_2 2) (IntKind.u64.wrap (Go.bits .and .u8 (ji8) 1))) = 1
                    · rw [if_pos c9] at H
                      have c9b0 : ((Go.bits .xor .u64 (Int.tmod x3_2 2) (IntKind.u64.wrap (Go.bits .and .u8 (ji8) 1))) == 1) = true := beq_iff_eq.mpr c9
                      have c9b1 : ((Go.bits .xor .u64 (Int.tmod x3_2 2) (IntKind.u64.wrap (Go.bits .and .u8 (ji8) 1))) != 1) = false := bne_eq_false_iff_eq.mpr c9
                      clear c9
                      have H' := Aside0.mk H
                      clear H
                      have p128 : 0 ≤ (x9_1 : Int) := of_decide_eq_true (by first | (with_reducible assumption) | assumption)
                      have q128 : x9_1 < (l0.length : Int) := of_decide_eq_true (by first | (with_reducible assumption) | assumption)
                      obtain ⟨ad128, e128, hx128_0⟩ := Kd.at_int HR0.out x9_1 p128 q128
                      cases e128
                      replace p128 := eq_true p128
                      replace q128 := eq_true q128
                      go_wp2
                      go_roundg k2
                      case measure => have := HK1.out; have := HK2.out; omega
                      case rel => exact ⟨(Go.bits .xor .u64 (IntKind.u64.wrap (Int.tdiv x3_2 2)) 3988292384), (wrap64 (x12_2 + 1)), (by first | rfl | (simp; done) | (simp [*]; done)), (by first | rfl | (simp; done) | (simp [*]; done)), H', ⟨by have := HK1.out; have := HK2.out; omega⟩, by repeat (first | exact Drawn0.refl _ | apply Drawn0.step)⟩
                    · rw [if_neg c9] at H
                      have c9b0 : ((Go.bits .xor .u64 (Int.tmod x3_2 2) (IntKind.u64.wrap (Go.bits .and .u8 (ji8) 1))) == 1) = false := beq_eq_false_iff_ne.mpr c9
                      have c9b1 : ((Go.bits .xor .u64 (Int.tmod x3_2 2) (IntKind.u64.wrap (Go.bits .and .u8 (ji8) 1))) != 1) = true := bne_iff_ne.mpr c9
                      have H' := Aside0.mk H
                      clear H
                      have p128 : 0 ≤ (x9_1 : Int) := of_decide_eq_true (by first | (with_reducible assumption) | assumption)
                      have q128 : x9_1 < (l0.length : Int) := of_decide_eq_true (by first | (with_reducible assumption) | assumption)
                      obtain ⟨ad128, e128, hx128_0⟩ := Kd.at_int HR0.out x9_1 p128 q128
                      cases e128
                      replace p128 := eq_true p128
                      replace q128 := eq_true q128
                      go_wp2
                      go_roundg k2
                      case measure => have := HK1.out; have := HK2.out; omega
                      case rel => exact ⟨(IntKind.u64.wrap (Int.tdiv x3_2 2)), (wrap64 (x12_2 + 1)), (by first | rfl | (simp; done) | (simp [*]; done)), (by first | rfl | (simp; done) | (simp [*]; done)), H', ⟨by have := HK1.out; have := HK2.out; omega⟩, by repeat (first | exact Drawn0.refl _ | apply Drawn0.step)⟩
                  · rw [if_neg c7] at H
                    exact absurd H (by simp)
                · rw [if_neg c5] at H
                  exact absurd H (by simp)
              · rw [if_neg c4] at H
                exact absurd H (by simp)
            · rw [if_neg c3] at H
              have c3b0 : decide (x12_2 < 8) = false := decide_eq_false c3
              clear c3
              have H' := Aside0.mk H
              clear H
              go_wp2
              go_roundg k2
              case measure => have := HK1.out; have := HK2.out; omega
              case rel => exact ⟨(x3_2), (wrap64 (x9_1 + 1)), (by first | rfl | (simp; done) | (simp [*]; done)), (by first | rfl | (simp; done) | (simp [*]; done)), H', ⟨by have := HK1.out; have := HK2.out; omega⟩, by repeat (first | exact Drawn0.refl _ | apply Drawn0.step)⟩
      · rw [if_neg c2] at H
        have c2b0 : decide (x9_1 < (l0.length : Int)) = false := decide_eq_false c2
        clear c2
        obtain rfl := Option.some.inj H
        go_wp2
        go_ret
        exact ⟨by first | rfl | (simp; done) | (simp [*]; done), by repeat (first | exact Drawn0.refl _ | apply Drawn0.step)⟩

end Go.Proofs.YtlmgikhgmbjfdaaDoor.QDig
/- Machine-made by a program of this claim: functions of the Go program as Lean functions, and that its calls do what these say. Lean checks it. -/
namespace Go.Proofs.YtlmgikhgmbjfdaaDoor.QDig
open Go.RowKit Go.Proofs.YtlmgikhgmbjfdaaDoorW.PrintWords Go.Proofs.YtlmgikhgmbjfdaaDoorW.PrintLast Go.Proofs.YtlmgikhgmbjfdaaDoorW.PrintMore
attribute [local go_sem] max2_int min2_int max_two min_two max_three min_three max_four min_four   -- for this text's walks alone
set_option linter.unusedVariables false
set_option linter.unusedSimpArgs false

end Go.Proofs.YtlmgikhgmbjfdaaDoor.QDig
/- The CRC of the program, called, answers the plain word. -/
namespace Go.Proofs.YtlmgikhgmbjfdaaDoor.Pure
open Go Go.RowKit Go.Proofs.YtlmgikhgmbjfdaaDoor.QDig Go.Proofs.YtlmgikhgmbjfdaaDoorW.PrintWords Go.Proofs.YtlmgikhgmbjfdaaDoorW.PrintLast

theorem turn_l0 : ∀ (n c i k : Nat), i + n = 8 → c < 4294967296 → n < k → sum_turn.l0 k c i = some ((Gy.cturn n c : Nat) : Int) := by
  intro n
  induction n with
  | zero =>
    intro c i k hi hc hk
    obtain ⟨k, rfl⟩ : ∃ m, k = m + 1 := ⟨k - 1, by omega⟩
    simp only [sum_turn.l0]
    rw [if_neg (by omega)]
    rfl
  | succ n ih =>
    intro c i k hi hc hk
    obtain ⟨k, rfl⟩ : ∃ m, k = m + 1 := ⟨k - 1, by omega⟩
    simp only [sum_turn.l0]
    rw [if_pos (by omega)]
    have e1 : Go.bits .and .u32 (c : Int) 1 = ((c % 2 : Nat) : Int) := by
      have h := Go.u32_and_nat c 1 hc (by omega)
      rw [Nat.and_one_is_mod] at h
      exact h
    rw [e1]
    have e2 : wrap64 ((i : Int) + 1) = ((i + 1 : Nat) : Int) := by rw [Gy.wrap64_id (by omega) (by omega)]; omega
    rw [e2]
    have e3 : Go.bits .xor .u32 ((c : Int) / 2) (Go.bits .and .u32 3988292384 ((-((c % 2 : Nat) : Int)) % 4294967296)) = ((Gy.cstep c : Nat) : Int) := by
      unfold Gy.cstep
      have ed : (c : Int) / 2 = ((c / 2 : Nat) : Int) := by omega
      rw [ed]
      by_cases h : c % 2 = 1
      · rw [if_pos h, h]
        have ea : Go.bits .and .u32 3988292384 ((-((1 : Nat) : Int)) % 4294967296) = ((3988292384 : Nat) : Int) := by decide +kernel
        rw [ea, Go.u32_xor_nat _ _ (by omega) (by omega)]
      · rw [if_neg h, show c % 2 = 0 from by omega]
        have ea : Go.bits .and .u32 3988292384 ((-((0 : Nat) : Int)) % 4294967296) = ((0 : Nat) : Int) := by decide +kernel
        rw [ea, Go.u32_xor_nat _ _ (by omega) (by omega), Nat.xor_zero]
    rw [e3]
    exact ih _ _ _ (by omega) (Gy.cstep_lt hc) (by omega)
theorem turn_f {k c : Nat} (hk : 9 ≤ k) (hc : c < 4294967296) : sum_turn.f k c = some ((Gy.cturn 8 c : Nat) : Int) := by
  unfold sum_turn.f
  exact turn_l0 8 c 0 k (by omega) hc (by omega)
theorem low_byte (c x : Nat) (hc : c < 4294967296) : (c &&& (4294967295 - 255)) ^^^ ((c % 256) ^^^ x) = c ^^^ x := by
  have h : (c &&& 4294967040) ^^^ (c % 256) = c := by
    have h2 : c % 256 = c &&& 255 := by
      have := Nat.and_two_pow_sub_one_eq_mod c 8
      simpa using this.symm
    rw [h2]
    apply Nat.eq_of_testBit_eq
    intro i
    simp only [Nat.testBit_xor, Nat.testBit_and]
    by_cases hi : i < 32
    · have : (4294967040 : Nat).testBit i = !((255 : Nat).testBit i) := by
        have := allB32 i hi
        exact this
      rw [this]
      cases c.testBit i <;> cases (255 : Nat).testBit i <;> rfl
    · have hcb : c.testBit i = false := Nat.testBit_lt_two_pow (Nat.lt_of_lt_of_le hc (Nat.pow_le_pow_right (n := 2) (i := 32) (by omega) (by omega)))
      rw [hcb]; rfl
  show (c &&& 4294967040) ^^^ ((c % 256) ^^^ x) = c ^^^ x
  rw [← Nat.xor_assoc, h]
where
  allB32 : ∀ i, i < 32 → (4294967040 : Nat).testBit i = !((255 : Nat).testBit i) := by decide
theorem crc_l0 : ∀ (d : Nat) (c i k : Nat) (l : List Int), c < 4294967296 → (∀ x ∈ l, 0 ≤ x ∧ x < 256) → l.length ≤ 9223372036854775807 → i + d = l.length → d + 10 < k →
    sum_CRC.l0 k c l (l.length : Int) i = some ((Gy.crcFold c (l.drop i) ^^^ 4294967295 : Nat) : Int) := by
  intro d
  induction d with
  | zero =>
    intro c i k l hc hx hl hi hk
    obtain ⟨k, rfl⟩ : ∃ m, k = m + 1 := ⟨k - 1, by omega⟩
    simp only [sum_CRC.l0]
    rw [if_neg (by omega), List.drop_eq_nil_of_le (by omega)]
    have h := Go.u32_xor_nat 4294967295 c (by omega) hc
    rw [Nat.xor_comm] at h
    exact congrArg some h
  | succ d ih =>
    intro c i k l hc hx hl hi hk
    obtain ⟨k, rfl⟩ : ∃ m, k = m + 1 := ⟨k - 1, by omega⟩
    simp only [sum_CRC.l0]
    have hi' : i < l.length := by omega
    rw [if_pos (by omega), if_pos (by omega), if_pos (by omega)]
    have hr : rd l (i : Int) = l[i] := by
      unfold rd
      rw [Int.toNat_natCast, List.getD_eq_getElem?_getD, List.getElem?_eq_getElem hi']
      rfl
    have hb := hx l[i] (List.getElem_mem hi')
    obtain ⟨n, hn⟩ : ∃ n : Nat, l[i] = n := ⟨l[i].toNat, by omega⟩
    have hn2 : n < 256 := by omega
    rw [hr, hn]
    have e0 : (c : Int) % 256 = ((c % 256 : Nat) : Int) := by omega
    have e1 : Go.bits .xor .u8 ((c : Int) % 256) (n : Int) = ((c % 256 ^^^ n : Nat) : Int) := by rw [e0]; exact Go.u8_xor_nat _ _ (by omega) (by omega)
    have h8 : c % 256 ^^^ n < 256 := Nat.xor_lt_two_pow (n := 8) (by omega) (by omega)
    rw [e1, show (((c % 256 ^^^ n : Nat) : Int)) % 4294967296 = ((c % 256 ^^^ n : Nat) : Int) from by omega]
    have e2 : Go.bits .andNot .u32 (c : Int) 255 = ((c &&& (4294967295 - 255) : Nat) : Int) := Go.u32_andNot_nat c 255 hc (by omega)
    have hle : (c &&& (4294967295 - 255)) < 4294967296 := Nat.lt_of_le_of_lt Nat.and_le_left hc
    rw [e2, Go.u32_xor_nat _ _ hle (by omega), low_byte c n hc]
    have hlt : c ^^^ n < 4294967296 := Gy.xor_lt32 hc (by omega)
    rw [turn_f (by omega) hlt, Option.bind_some, show wrap64 ((i : Int) + 1) = ((i + 1 : Nat) : Int) from by rw [Gy.wrap64_id (by omega) (by omega)]; omega]
    rw [ih _ (i + 1) k l (Gy.cturn_lt 8 _ hlt) hx hl (by omega) (by omega)]
    rw [List.drop_eq_getElem_cons hi', hn]
    rfl
theorem crc_f {k : Nat} {l : List Int} (hx : ∀ x ∈ l, 0 ≤ x ∧ x < 256) (hl : l.length ≤ 9223372036854775807) (hk : l.length + 10 < k) : sum_CRC.f k l = some ((Gy.crc l : Nat) : Int) := by
  unfold sum_CRC.f
  exact crc_l0 l.length 4294967295 0 k l (by omega) hx hl (by omega) hk
theorem kd_of_reads {w : World} {A : Option Addr} {n : Nat} {xs : List Int} (h : ReadsInt w .u8 A n xs) : Kd.C (Kd.int .u8) w A xs.length xs := by
  obtain rfl : xs.length = n := h.1
  exact Kd.C_of_reads (enc := Value.int .u8) (d := (0 : Int)) (h1 := fun _ => rfl) h
theorem crc_calls (A : Option Addr) (c : Nat) (xs : List Int) (w : World) (hR : ReadsInt w .u8 A xs.length xs) (hc : xs.length ≤ c) (hx : ∀ x ∈ xs, 0 ≤ x ∧ x < 256) (hl : xs.length ≤ 1000000) :
    Calls Tryd.prog 29 #[.slice A xs.length c] w fun e w' => e = .returned (.int .u32 (Gy.crc xs : Nat)) ∧ Below w.heap.size w w' := by
  obtain ⟨k, hk⟩ : ∃ k : Nat, xs.length + 10 < k := ⟨xs.length + 11, by omega⟩
  exact (sum_CRC.calls k A c xs _ w (kd_of_reads hR) hc (crc_f hx (by omega) hk)).mono fun e w' h => ⟨h.1, h.2.below⟩

end Go.Proofs.YtlmgikhgmbjfdaaDoor.Pure
/- What the printed functions of package sum say, in plain numbers. -/
namespace Go.Proofs.YtlmgikhgmbjfdaaDoor.Dig
open Go Go.RowKit Go.Proofs.YtlmgikhgmbjfdaaDoor.QDig Go.Proofs.YtlmgikhgmbjfdaaDoorW.PrintWords Go.Proofs.YtlmgikhgmbjfdaaDoorW.PrintLast Gy

theorem u64id {n : Int} (h0 : 0 ≤ n) (h1 : n < 18446744073709551616) : IntKind.u64.wrap n = n := Gy.u64_wrap_id h0 h1
theorem u64wrap (n : Int) : IntKind.u64.wrap n = n % 18446744073709551616 := by simp [IntKind.wrap, IntKind.bits, IntKind.signed]
theorem u32wrap (n : Int) : IntKind.u32.wrap n = n % 4294967296 := by simp [IntKind.wrap, IntKind.bits, IntKind.signed]
theorem shr_nat {k : IntKind} (x n : Nat) (h : n ≤ k.bits) : shr k (x : Int) (n : Int) = ((x / 2 ^ n : Nat) : Int) := by
  unfold shr
  have e : min ((n : Int)).toNat k.bits = n := by rw [Int.toNat_natCast]; omega
  rw [e]
  norm_cast
theorem shl_u32 (x n : Nat) (h : n ≤ 32) : shl .u32 (x : Int) (n : Int) = ((x * 2 ^ n % 4294967296 : Nat) : Int) := by
  unfold shl
  have e : min ((n : Int)).toNat IntKind.u32.bits = n := by rw [Int.toNat_natCast]; show min n 32 = n; omega
  have e2 : (x : Int) * 2 ^ n = ((x * 2 ^ n : Nat) : Int) := by norm_cast
  rw [e, u32wrap, e2]
  exact (Int.natCast_emod _ 4294967296).symm
theorem shl_u64 (x n : Nat) (h : n ≤ 64) (hx : x * 2 ^ n < 18446744073709551616) : shl .u64 (x : Int) (n : Int) = ((x * 2 ^ n : Nat) : Int) := by
  unfold shl
  have e : min ((n : Int)).toNat IntKind.u64.bits = n := by rw [Int.toNat_natCast]; show min n 64 = n; omega
  have e2 : (x : Int) * 2 ^ n = ((x * 2 ^ n : Nat) : Int) := by norm_cast
  rw [e, e2, u64id (by omega) (by omega)]
theorem mul_lt32 {x n : Nat} (hx : x < 4294967296) (hn : n ≤ 32) : x * 2 ^ n < 18446744073709551616 := by
  have h1 : 2 ^ n ≤ 2 ^ 32 := Nat.pow_le_pow_right (by omega) hn
  have h2 : x * 2 ^ n ≤ 4294967295 * 2 ^ 32 := Nat.mul_le_mul (by omega) h1
  omega
theorem right_f {x n : Nat} (hx : x < 4294967296) (h1 : 1 ≤ n) (h2 : n ≤ 31) : sum_right.f (x : Int) (n : Int) = some ((ror n x : Nat) : Int) := by
  have e0 : Go.bits .and .u64 (IntKind.u64.wrap (wrap64 (-(n : Int)))) 31 = ((32 - n : Nat) : Int) := by
    have e1 : IntKind.u64.wrap (wrap64 (-(n : Int))) = ((18446744073709551616 - n : Nat) : Int) := by rw [u64wrap, Gy.wrap64_id (by omega) (by omega)]; omega
    have e2 := Go.bits_and_u64_nat (18446744073709551616 - n) 31 (by omega) (by omega)
    have e3 : (18446744073709551616 - n) &&& 31 = 32 - n := by
      have := Nat.and_two_pow_sub_one_eq_mod (18446744073709551616 - n) 5
      rw [show (2 ^ 5 - 1 : Nat) = 31 from rfl] at this
      rw [this]
      omega
    rw [e1]
    exact e2.trans (by rw [e3])
  have e4 : IntKind.u64.wrap (32 - ((32 - n : Nat) : Int)) = (n : Int) := by rw [u64id (by omega) (by omega)]; omega
  have e5 : Go.bits .or .u32 ((x * 2 ^ (32 - n) % 4294967296 : Nat) : Int) ((x / 2 ^ n : Nat) : Int) = ((ror n x : Nat) : Int) := by
    rw [Go.u32_or_nat _ _ (Nat.mod_lt _ (by omega)) (Nat.lt_of_le_of_lt (Nat.div_le_self _ _) hx), Nat.or_comm]
    rfl
  unfold sum_right.f bits_RotateLeft32.f
  rw [e0, if_pos (by omega), e4, if_pos (by omega), shl_u32 x (32 - n) (by omega), shr_nat x n (by show n ≤ 32; omega), e5]
  rfl
theorem turned_f {x n : Nat} (hx : x < 4294967296) (h1 : 1 ≤ n) (h2 : n ≤ 31) : geyserref01_turned.f (x : Int) (n : Int) = some ((ror n x : Nat) : Int) := by
  have e4 : IntKind.u64.wrap (32 - (n : Int)) = ((32 - n : Nat) : Int) := by rw [u64id (by omega) (by omega)]; omega
  have hl := mul_lt32 (n := 32 - n) hx (by omega)
  have hd : x / 2 ^ n < 4294967296 := Nat.lt_of_le_of_lt (Nat.div_le_self _ _) hx
  have ho : x / 2 ^ n ||| x * 2 ^ (32 - n) < 18446744073709551616 := Nat.or_lt_two_pow (n := 64) (by omega) (by omega)
  have e5 := Go.bits_or_u64_nat (x / 2 ^ n) (x * 2 ^ (32 - n)) (by omega) hl
  have e6 := Go.bits_and_u64_nat (x / 2 ^ n ||| x * 2 ^ (32 - n)) 4294967295 ho (by omega)
  rw [ror_mask hx] at e6
  unfold geyserref01_turned.f
  rw [if_pos (by omega), e4, if_pos (by omega), shr_nat x n (by show n ≤ 64; omega), shl_u64 x (32 - n) (by omega) hl]
  exact congrArg some ((congrArg (fun z => Go.bits .and .u64 z 4294967295) e5).trans e6)
theorem right_lit {x : Nat} (hx : x < 4294967296) (n : Int) (m : Nat) (h : n = (m : Int)) (h1 : 1 ≤ m) (h2 : m ≤ 31) : sum_right.f (x : Int) n = some ((ror m x : Nat) : Int) := by rw [h]; exact right_f hx h1 h2
theorem xorN {a b : Nat} (ha : a < 4294967296) (hb : b < 4294967296) : Go.bits .xor .u32 (a : Int) (b : Int) = ((a ^^^ b : Nat) : Int) := Go.u32_xor_nat a b ha hb
theorem andN {a b : Nat} (ha : a < 4294967296) (hb : b < 4294967296) : Go.bits .and .u32 (a : Int) (b : Int) = ((a &&& b : Nat) : Int) := Go.u32_and_nat a b ha hb
theorem orN {a b : Nat} (ha : a < 4294967296) (hb : b < 4294967296) : Go.bits .or .u32 (a : Int) (b : Int) = ((a ||| b : Nat) : Int) := Go.u32_or_nat a b ha hb
def tup (s : St) : Int × Int × Int × Int × Int × Int × Int × Int := (s.a, s.b, s.c, s.d, s.e, s.f, s.g, s.h)
theorem round_f {s : St} {x : Nat} (h : s.ok) : sum_state_round.f s.a s.b s.c s.d s.e s.f s.g s.h x = some (tup (rnd s x)) := by
  have e6 := right_lit h.e 6 6 rfl (by omega) (by omega)
  have e11 := right_lit h.e 11 11 rfl (by omega) (by omega)
  have e25 := right_lit h.e 25 25 rfl (by omega) (by omega)
  have e2 := right_lit h.a 2 2 rfl (by omega) (by omega)
  have e13 := right_lit h.a 13 13 rfl (by omega) (by omega)
  have e22 := right_lit h.a 22 22 rfl (by omega) (by omega)
  have r (n x : Nat) (h : x < 4294967296) : ror n x < 4294967296 := ror_lt h
  unfold sum_state_round.f
  rw [e6, Option.bind_some, e11, Option.bind_some, e25, Option.bind_some, e2, Option.bind_some, e13, Option.bind_some, e22, Option.bind_some]
  rw [xorN (r 6 _ h.e) (r 11 _ h.e), xorN (xor32 (r 6 _ h.e) (r 11 _ h.e)) (r 25 _ h.e), xorN (r 2 _ h.a) (r 13 _ h.a), xorN (xor32 (r 2 _ h.a) (r 13 _ h.a)) (r 22 _ h.a)]
  rw [xorN h.f h.g, andN h.e (xor32 h.f h.g), xorN h.g (and32 h.e), andN h.a h.b, orN h.a h.b, andN h.c (or32 h.a h.b), orN (and32 h.a) (and32 h.c)]
  unfold tup rnd one two
  change some (((s.h : Int) + (bs1 s.e : Nat) + (chs s.e s.f s.g : Nat) + (x : Int) + ((bs0 s.a : Nat) + (mjs s.a s.b s.c : Nat) : Int)) % 4294967296, (s.a : Int), (s.b : Int), (s.c : Int), ((s.d : Int) + ((s.h : Int) + (bs1 s.e : Nat) + (chs s.e s.f s.g : Nat) + (x : Int))) % 4294967296, (s.e : Int), (s.f : Int), (s.g : Int)) = _
  congr 2
  · generalize bs1 s.e = p; generalize chs s.e s.f s.g = q; generalize bs0 s.a = u; generalize mjs s.a s.b s.c = v
    simp only
    omega
  · congr 4
    generalize bs1 s.e = p; generalize chs s.e s.f s.g = q
    simp only
    omega
theorem plus_f (s t : St) : sum_state_plus.f s.a s.b s.c s.d s.e s.f s.g s.h t.a t.b t.c t.d t.e t.f t.g t.h = some (tup (s.plus t)) := by
  unfold sum_state_plus.f tup St.plus
  simp only [Int.natCast_emod, Int.natCast_add, Int.cast_ofNat_Int]
theorem begin_f : sum_begin.f = some (tup Gy.begun) := rfl
theorem rd_getD (l : List Int) (i : Nat) : rd l (i : Int) = l.getD i 0 := by unfold rd; rw [Int.toNat_natCast]
theorem or_byte (c y : Nat) (hy : y < 256) : c * 256 ||| y = c * 256 + y := by
  have h := Nat.shiftLeft_add_eq_or_of_lt (b := y) (i := 8) (by omega) c
  rw [Nat.shiftLeft_eq] at h
  exact h.symm
theorem number_l0 (l : List Int) (hb : Bytes l) (h4 : l.length = 4) (k : Nat) (hk : 4 < k) : sum_number.l0 k 0 l 4 0 = some ((num4 l : Nat) : Int) := by
  obtain ⟨k, rfl⟩ : ∃ m, k = m + 5 := ⟨k - 5, by omega⟩
  have b (i : Nat) (hi : i < 4) : ∃ y : Nat, l.getD i 0 = (y : Int) ∧ y < 256 ∧ (l.getD i 0).toNat = y := by
    have h1 := hb (l.getD i 0) (by rw [List.getD_eq_getElem?_getD, List.getElem?_eq_getElem (by omega)]; exact List.getElem_mem _)
    exact ⟨(l.getD i 0).toNat, by omega, by omega, rfl⟩
  obtain ⟨y0, e0, l0, f0⟩ := b 0 (by omega)
  obtain ⟨y1, e1, l1, f1⟩ := b 1 (by omega)
  obtain ⟨y2, e2, l2, f2⟩ := b 2 (by omega)
  obtain ⟨y3, e3, l3, f3⟩ := b 3 (by omega)
  have step (k : Nat) (c : Nat) (i : Nat) (hi : i < 4) (y : Nat) (he : l.getD i 0 = (y : Int)) (hy : y < 256) (hc : c < 16777216) : sum_number.l0 (k + 1) (c : Int) l 4 (i : Int) = sum_number.l0 k ((c * 256 + y : Nat) : Int) l 4 ((i + 1 : Nat) : Int) := by
    simp only [sum_number.l0]
    rw [if_pos (by omega), if_pos (by omega), if_pos (by omega), rd_getD, he]
    have e5 : (c : Int) * 256 % 4294967296 = ((c * 256 : Nat) : Int) := by omega
    have e6 : (y : Int) % 4294967296 = (y : Int) := by omega
    rw [e5, e6, orN (by omega) (by omega), or_byte c y hy, Gy.wrap64_id (by omega) (by omega)]
    rfl
  have s0 := step (k + 4) 0 0 (by omega) y0 e0 l0 (by omega)
  have s1 := step (k + 3) (0 * 256 + y0) 1 (by omega) y1 e1 l1 (by omega)
  have s2 := step (k + 2) ((0 * 256 + y0) * 256 + y1) 2 (by omega) y2 e2 l2 (by omega)
  have s3 := step (k + 1) (((0 * 256 + y0) * 256 + y1) * 256 + y2) 3 (by omega) y3 e3 l3 (by omega)
  have s4 : sum_number.l0 (k + 1) (((((0 * 256 + y0) * 256 + y1) * 256 + y2) * 256 + y3 : Nat) : Int) l 4 ((3 + 1 : Nat) : Int) = some (((((0 * 256 + y0) * 256 + y1) * 256 + y2) * 256 + y3 : Nat) : Int) := by
    simp only [sum_number.l0]
    rw [if_neg (by omega)]
  have hn : num4 l = (((0 * 256 + y0) * 256 + y1) * 256 + y2) * 256 + y3 := by
    unfold num4
    rw [f0, f1, f2, f3]
    omega
  rw [hn]
  exact s0.trans (s1.trans (s2.trans (s3.trans s4)))
theorem num4_take (l : List Int) : num4 (l.take 4) = num4 l := by
  unfold num4
  have h (i : Nat) (hi : i < 4) : (l.take 4).getD i 0 = l.getD i 0 := by
    rw [List.getD_eq_getElem?_getD, List.getD_eq_getElem?_getD, List.getElem?_take_of_lt hi]
  rw [h 0 (by omega), h 1 (by omega), h 2 (by omega), h 3 (by omega)]
theorem number_f {l : List Int} (hb : Bytes l) (h4 : 4 ≤ l.length) {k : Nat} (hk : 4 < k) : sum_number.f k l = some ((num4 l : Nat) : Int) := by
  have h1 : (l.take 4).length = 4 := by rw [List.length_take]; omega
  unfold sum_number.f
  rw [if_pos (by omega), h1, ← num4_take]
  exact number_l0 _ (hb.take 4) h1 k hk
theorem Number_f {l : List Int} (hb : Bytes l) (h4 : l.length = 4) {k : Nat} (hk : 4 < k) : geyserref01_Number.f k l = some ((num4 l : Nat) : Int) := by
  obtain ⟨k, rfl⟩ : ∃ m, k = m + 5 := ⟨k - 5, by omega⟩
  have b (i : Nat) (hi : i < 4) : ∃ y : Nat, l.getD i 0 = (y : Int) ∧ y < 256 ∧ (l.getD i 0).toNat = y := by
    have h1 := hb (l.getD i 0) (by rw [List.getD_eq_getElem?_getD, List.getElem?_eq_getElem (by omega)]; exact List.getElem_mem _)
    exact ⟨(l.getD i 0).toNat, by omega, by omega, rfl⟩
  obtain ⟨y0, e0, l0, f0⟩ := b 0 (by omega)
  obtain ⟨y1, e1, l1, f1⟩ := b 1 (by omega)
  obtain ⟨y2, e2, l2, f2⟩ := b 2 (by omega)
  obtain ⟨y3, e3, l3, f3⟩ := b 3 (by omega)
  have step (k : Nat) (c : Nat) (i : Nat) (hi : i < 4) (y : Nat) (he : l.getD i 0 = (y : Int)) (hy : y < 256) (hc : c < 16777216) : geyserref01_Number.l0 (k + 1) l (c : Int) 4 (i : Int) = geyserref01_Number.l0 k l ((c * 256 + y : Nat) : Int) 4 ((i + 1 : Nat) : Int) := by
    simp only [geyserref01_Number.l0]
    rw [if_pos (by omega), if_pos (by omega), if_pos (by omega), rd_getD, he]
    rw [u64id (n := (y : Int)) (by omega) (by omega), u64id (n := (c : Int) * 256) (by omega) (by omega), u64id (by omega) (by omega), Gy.wrap64_id (by omega) (by omega)]
    rfl
  have s0 := step (k + 4) 0 0 (by omega) y0 e0 l0 (by omega)
  have s1 := step (k + 3) (0 * 256 + y0) 1 (by omega) y1 e1 l1 (by omega)
  have s2 := step (k + 2) ((0 * 256 + y0) * 256 + y1) 2 (by omega) y2 e2 l2 (by omega)
  have s3 := step (k + 1) (((0 * 256 + y0) * 256 + y1) * 256 + y2) 3 (by omega) y3 e3 l3 (by omega)
  have s4 : geyserref01_Number.l0 (k + 1) l (((((0 * 256 + y0) * 256 + y1) * 256 + y2) * 256 + y3 : Nat) : Int) 4 ((3 + 1 : Nat) : Int) = some (((((0 * 256 + y0) * 256 + y1) * 256 + y2) * 256 + y3 : Nat) : Int) := by
    simp only [geyserref01_Number.l0]
    rw [if_neg (by omega)]
  have hn : num4 l = (((0 * 256 + y0) * 256 + y1) * 256 + y2) * 256 + y3 := by
    unfold num4
    rw [f0, f1, f2, f3]
    omega
  unfold geyserref01_Number.f
  rw [hn, h4]
  exact s0.trans (s1.trans (s2.trans (s3.trans s4)))
/-! ### the rounds' numbers -/
def primes : List Nat := [2, 3, 5, 7, 11, 13, 17, 19, 23, 29, 31, 37, 41, 43, 47, 53, 59, 61, 67, 71, 73, 79, 83, 89, 97, 101, 103, 107, 109, 113, 127, 131, 137, 139, 149, 151, 157, 163, 167, 173, 179, 181, 191, 193, 197, 199, 211, 223, 227, 229, 233, 239, 241, 251, 257, 263, 269, 271, 277, 281, 283, 293, 307, 311]
def cnt (p : Nat) : Nat := primes.countP (· < p)
def primeN (p : Nat) : Bool := primes.contains p
def chkP (p : Nat) : Bool := sum_prime.f 30 (p : Int) == some (primeN p) && (if primeN p then cnt (p + 1) == cnt p + 1 && sum_cube.f 40 (p : Int) == some ((kTab.getD (cnt p) 0 : Nat) : Int) else cnt (p + 1) == cnt p)
theorem chk_all : (List.range 310).all (fun i => chkP (i + 2)) = true := by decide +kernel
theorem chk_at {p : Nat} (h1 : 2 ≤ p) (h2 : p < 312) : chkP p = true := by
  have h := List.all_eq_true.1 chk_all (p - 2) (List.mem_range.2 (by omega))
  rwa [show p - 2 + 2 = p from by omega] at h
theorem cnt_end : cnt 312 = 64 := by decide +kernel
theorem cnt_start : cnt 2 = 0 := by decide +kernel
theorem cnt_mono {p q : Nat} (h : p ≤ q) : cnt p ≤ cnt q := by
  unfold cnt
  refine List.countP_mono_left fun x _ hx => ?_
  simp only [decide_eq_true_eq] at hx ⊢
  omega
end Go.Proofs.YtlmgikhgmbjfdaaDoor.Dig
/- The walks over package sum: small functions, the rounds' numbers, bytes filled up. -/
namespace Go.Proofs.YtlmgikhgmbjfdaaDoor.Dig
open Go Go.RowKit Go.Proofs.YtlmgikhgmbjfdaaDoor.QDig Go.Proofs.YtlmgikhgmbjfdaaDoorW.PrintWords Go.Proofs.YtlmgikhgmbjfdaaDoorW.PrintLast Go.Proofs.YtlmgikhgmbjfdaaDoorW.PrintMore Gy

def n32 (l : List Nat) : List Value := l.map fun x : Nat => Value.int .u32 (x : Int)
def n64 (l : List Nat) : List Value := l.map fun x : Nat => Value.int .u64 (x : Int)
theorem n32_one (l : List Nat) : ∀ v ∈ n32 l, v.oneCell' = true := by
  intro v hv
  obtain ⟨x, _, rfl⟩ := List.mem_map.1 hv
  rfl
theorem n64_one (l : List Nat) : ∀ v ∈ n64 l, v.oneCell' = true := by
  intro v hv
  obtain ⟨x, _, rfl⟩ := List.mem_map.1 hv
  rfl
theorem n32_at {l : List Nat} {i : Nat} (h : i < l.length) : (n32 l)[i]? = some (.int .u32 ((l.getD i 0 : Nat) : Int)) := by
  unfold n32
  rw [List.getElem?_map, List.getElem?_eq_getElem h, List.getD_eq_getElem?_getD, List.getElem?_eq_getElem h]
  rfl
theorem n64_at {l : List Nat} {i : Nat} (h : i < l.length) : (n64 l)[i]? = some (.int .u64 ((l.getD i 0 : Nat) : Int)) := by
  unfold n64
  rw [List.getElem?_map, List.getElem?_eq_getElem h, List.getD_eq_getElem?_getD, List.getElem?_eq_getElem h]
  rfl
theorem n32_set (l : List Nat) (i x : Nat) : (n32 l).set i (.int .u32 (x : Int)) = n32 (l.set i x) := by unfold n32; rw [List.map_set]
theorem n64_set (l : List Nat) (i x : Nat) : (n64 l).set i (.int .u64 (x : Int)) = n64 (l.set i x) := by unfold n64; rw [List.map_set]
theorem n32_length (l : List Nat) : (n32 l).length = l.length := List.length_map _
theorem n64_length (l : List Nat) : (n64 l).length = l.length := List.length_map _
theorem kd_of_reads {w : World} {A : Option Addr} {n : Nat} {xs : List Int} (h : ReadsInt w .u8 A n xs) : Kd.C (Kd.int .u8) w A xs.length xs := by
  obtain rfl : xs.length = n := h.1
  exact Kd.C_of_reads (enc := Value.int .u8) (d := (0 : Int)) (h1 := fun _ => rfl) h
theorem round_calls (s : St) (x : Nat) (w : World) (h : s.ok) :
    Calls Tryd.prog 72 #[.agg (n32 s.nats).toArray, .int .u32 (x : Int)] w fun e w' => e = .returned (.agg (n32 (rnd s x).nats).toArray) ∧ Below w.heap.size w w' :=
  (sum_state_round.calls _ _ _ _ _ _ _ _ _ _ _ _ _ _ _ _ _ w (round_f (x := x) h)).mono fun _ _ h => h
theorem plus_calls (s t : St) (w : World) :
    Calls Tryd.prog 73 #[.agg (n32 s.nats).toArray, .agg (n32 t.nats).toArray] w fun e w' => e = .returned (.agg (n32 (s.plus t).nats).toArray) ∧ Below w.heap.size w w' :=
  (sum_state_plus.calls _ _ _ _ _ _ _ _ _ _ _ _ _ _ _ _ _ _ _ _ _ _ _ _ w (plus_f s t)).mono fun _ _ h => h
theorem begin_calls (w : World) :
    Calls Tryd.prog 50 #[] w fun e w' => e = .returned (.agg (n32 Gy.begun.nats).toArray) ∧ Below w.heap.size w w' :=
  (sum_begin.calls _ _ _ _ _ _ _ _ w begin_f).mono fun _ _ h => h
theorem number_calls (A : Option Addr) (n c : Nat) (xs : List Int) (w : World) (hR : ReadsInt w .u8 A n xs) (hc : n ≤ c) (hb : Bytes xs) (h4 : 4 ≤ n) :
    Calls Tryd.prog 70 #[.slice A n c] w fun e w' => e = .returned (.int .u32 ((num4 xs : Nat) : Int)) ∧ Drawn0 w w' := by
  have hl := hR.1
  have hk := kd_of_reads hR
  subst hl
  exact (sum_number.calls 9 A c xs _ w hk hc (number_f hb h4 (by omega))).mono fun _ _ h => h
theorem Number_calls (A : Option Addr) (n c : Nat) (xs : List Int) (w : World) (hR : ReadsInt w .u8 A n xs) (hc : n ≤ c) (hb : Bytes xs) (h4 : n = 4) :
    Calls Tryd.prog 32 #[.slice A n c] w fun e w' => e = .returned (.int .u64 ((num4 xs : Nat) : Int)) ∧ Drawn0 w w' := by
  have hl := hR.1
  have hk := kd_of_reads hR
  subst hl
  exact (geyserref01_Number.calls 9 A c xs _ w hk hc (Number_f hb h4 (by omega))).mono fun _ _ h => h
theorem prime_calls (p : Nat) (w : World) (h1 : 2 ≤ p) (h2 : p < 312) :
    Calls Tryd.prog 68 #[.int .u64 (p : Int)] w fun e w' => e = .returned (.bool (primeN p)) ∧ Drawn0 w w' := by
  have h := chk_at h1 h2
  unfold chkP at h
  rw [Bool.and_eq_true] at h
  have h3 : sum_prime.f 30 (p : Int) = some (primeN p) := by simpa using h.1
  exact (sum_prime.calls 30 _ _ w h3).mono fun _ _ h => h
theorem cube_calls (p : Nat) (w : World) (h1 : 2 ≤ p) (h2 : p < 312) (hp : primeN p = true) :
    Calls Tryd.prog 69 #[.int .u64 (p : Int)] w fun e w' => e = .returned (.int .u32 ((kTab.getD (cnt p) 0 : Nat) : Int)) ∧ Drawn0 w w' := by
  have h := chk_at h1 h2
  unfold chkP at h
  rw [Bool.and_eq_true, if_pos hp, Bool.and_eq_true] at h
  have h3 : sum_cube.f 40 (p : Int) = some ((kTab.getD (cnt p) 0 : Nat) : Int) := by simpa using h.2.2
  exact (sum_cube.calls 40 _ _ w h3).mono fun _ _ h => h
theorem cnt_yes {p : Nat} (h1 : 2 ≤ p) (h2 : p < 312) (hp : primeN p = true) : cnt (p + 1) = cnt p + 1 := by
  have h := chk_at h1 h2
  unfold chkP at h
  rw [Bool.and_eq_true, if_pos hp, Bool.and_eq_true] at h
  simpa using h.2.1
theorem cnt_no {p : Nat} (h1 : 2 ≤ p) (h2 : p < 312) (hp : primeN p = false) : cnt (p + 1) = cnt p := by
  have h := chk_at h1 h2
  unfold chkP at h
  rw [Bool.and_eq_true, hp] at h
  simpa using h.2
/-- so many of the rounds' numbers are there -/
def kPart (n : Nat) : List Nat := kTab.take n ++ List.replicate (64 - n) 0
theorem kPart_length {n : Nat} (h : n ≤ 64) : (kPart n).length = 64 := by
  unfold kPart; rw [List.length_append, List.length_take, List.length_replicate, kTab_length]; omega
theorem kPart_all : kPart 64 = kTab := by
  unfold kPart; rw [List.take_of_length_le (by rw [kTab_length]; omega)]; exact List.append_nil _
theorem kPart_set {n : Nat} (h : n < 64) : (kPart n).set n (kTab.getD n 0) = kPart (n + 1) := by
  have hl : (kTab.take n).length = n := by rw [List.length_take, kTab_length]; omega
  have hg : kTab.getD n 0 = kTab[n]'(by rw [kTab_length]; omega) := by rw [List.getD_eq_getElem?_getD, List.getElem?_eq_getElem (by rw [kTab_length]; omega)]; rfl
  unfold kPart
  rw [List.set_append_right _ _ (by omega), hl, Nat.sub_self, hg, List.take_succ_eq_append_getElem (by rw [kTab_length]; omega), List.append_assoc]
  congr 1
  rw [show 64 - n = (64 - (n + 1)) + 1 from by omega, List.replicate_succ]
  rfl
set_option maxRecDepth 100000 in
theorem zero_64 : ∃ zs : Array Value, zs = (n32 (List.replicate 64 0)).toArray ∧ ∀ W : World, (zeroValue 93).run Tryd.prog W = .ok (.agg zs) W := by
  refine ⟨_, rfl, fun W => ?_⟩
  kernel_rfl
set_option maxRecDepth 100000 in
theorem info_64 : (Tryd.prog.info? 93).map (·.size) = some 64 := by kernel_rfl
theorem info_k64a : (Tryd.prog.info? 93).map (·.size) = some (n32 kTab).length := by rw [n32_length]; exact info_64
theorem info_k64b : (Tryd.prog.info? 93).map (·.size) = some (n32 kTab).toArray.size := by rw [List.size_toArray]; exact info_k64a
theorem results_arr {P : Program} {f : Func} {t : TypeId} {s : Nat} {tmps : Array Value} {w : World} {b : Nat} {vs : List Value} (hf : f.results = #[ResultVar.cell s t]) (hp : tmps.getD s undef = .pointer (some ⟨b, 0, none⟩)) (hT : (loadVar t ⟨b, 0, none⟩).run P w = .ok (.agg vs.toArray) w) :
    (results f tmps).run P w = .ok (.agg vs.toArray) w := by
  unfold results
  rw [hf, show #[ResultVar.cell s t] = [ResultVar.cell s t].toArray from rfl, List.mapM_toArray]
  simp only [Sem.run_bind, Sem.run_map]
  have hp2 : tmps[s]?.getD undef = .pointer (some ⟨b, 0, none⟩) := by rw [← hp, Array.getD_eq_getD_getElem?]
  simp [List.mapM_cons, hp2, asAddr, hT]
theorem cnt_lt_end {p : Nat} (h : cnt p < 64) : p < 312 := by
  rcases Nat.lt_or_ge p 312 with h1 | h1
  · exact h1
  · have := cnt_mono h1
    rw [cnt_end] at this
    omega
theorem end_rounds {p : Nat} (h : p < 312) : 400 - (intOf (Value.int .u64 ((p : Int) + 1))).toNat < 400 - (intOf (Value.int .u64 (p : Int))).toNat := by
  show 400 - ((p : Int) + 1).toNat < 400 - ((p : Int)).toNat
  omega
/-- two rows of 64 words, the first still empty -/
structure Rnds (w wr : World) (n : Nat) : Prop where
  r : Arr wr w.heap.size (n32 (List.replicate 64 0))
  k : Arr wr (w.heap.size + 1) (n32 (kPart n))
  b : Below w.heap.size w wr
theorem Rnds.dr {w wr w' : World} {n : Nat} (h : Rnds w wr n) (hd : Drawn0 wr w') : Rnds w w' n := by
  obtain ⟨m, rfl⟩ := hd.out
  exact ⟨h.r.drewN m, h.k.drewN m, pw_below_drewN h.b m⟩
theorem Rnds.set {w wr : World} {n : Nat} (h : Rnds w wr n) (hn : n < 64) : Rnds w (wr.setCell ⟨w.heap.size + 1, n, none⟩ (.int .u32 ((kTab.getD n 0 : Nat) : Int))) (n + 1) := by
  have h2 := h.k.set (i := n) (by rw [n32_length, kPart_length (by omega)]; omega) (.int .u32 ((kTab.getD n 0 : Nat) : Int))
  rw [n32_set, kPart_set hn] at h2
  exact ⟨h.r.far (by omega) _ _, h2, h.b.setCell (Nat.le_succ _) _⟩
theorem Rnds.cell {w wr : World} {n : Nat} (h : Rnds w wr n) (hn : n < 64) : ∃ v, wr.cell? ⟨w.heap.size + 1, n, none⟩ = some v ∧ wr.frozen? ⟨w.heap.size + 1, n, none⟩ = false :=
  ⟨_, h.k.cell (n32_at (by rw [kPart_length (by omega)]; omega)), h.k.fr n⟩
theorem rnds_start (w : World) (zs : Array Value) (hz : zs = (n32 (List.replicate 64 0)).toArray) (t : TypeId) : Rnds w ((w.alloc (.cells zs t)).alloc (.cells zs t)) 0 := by
  refine ⟨(Arr.fresh w _ zs hz t).alloc _, ?_, ?_⟩
  · have := Arr.fresh (w.alloc (.cells zs t)) _ zs hz t
    rw [size_alloc'] at this
    exact this
  · exact (Gy.alloc_below w _).trans ((Gy.alloc_below _ _).mono (by rw [size_alloc']; omega))
set_option maxHeartbeats 4000000 in
set_option maxRecDepth 100000 in
theorem rounds_calls (w : World) :
    Calls Tryd.prog 49 #[] w fun e w' => e = .returned (.agg (n32 kTab).toArray) ∧ Below w.heap.size w w' := by
  obtain ⟨zs, hzs, hz⟩ := zero_64
  have HS := Lib.hid (rnds_start w zs hzs 93)
  clear hzs
  go_enter Tryd.func49, Tryd.ntmps49
  go_wp2
  go_loopw [2, 3] (fun v2 v3 wr => ∃ p n : Nat, 2 ≤ p ∧ n = cnt p ∧ n ≤ 64 ∧ v2 = .int .i64 (n : Int) ∧ v3 = .int .u64 (p : Int) ∧ Gy.Hd (Rnds w wr n)) (fun _ v3 _ => 400 - (intOf v3).toNat)
  case atStart => exact ⟨2, 0, Nat.le_refl _, cnt_start.symm, by omega, rfl, rfl, ⟨HS.out⟩⟩
  case round =>
    obtain ⟨p, n, hp, hn, hn2, rfl, rfl, hH⟩ := hrel
    clear HS
    by_cases hlt : n < 64
    · have hp2 : p < 312 := cnt_lt_end (by omega)
      have t1 : decide ((n : Int) < 64) = true := by simp; omega
      have hw : IntKind.u64.wrap ((p : Int) + 1) = (p : Int) + 1 := u64id (by omega) (by omega)
      have hw2 : wrap64 ((n : Int) + 1) = (n : Int) + 1 := by unfold wrap64; omega
      have hend := end_rounds hp2
      have HP := Lib.hid (And.intro hp (And.intro hp2 (And.intro hn hlt)))
      cases hpr : primeN p with
      | true =>
        have HY := Lib.hid hpr
        clear hn hp hp2 hpr hn2
        go_wp2_with (first
          | (go_at_call 68; (with_reducible refine (prime_calls p _ HP.out.1 HP.out.2.1).mono ?_); rw [HY.out]; rintro e w1 ⟨rfl, e1⟩; have E1 := Lib.hid (hH.out.dr e1); clear e1)
          | (go_at_call 69; (with_reducible refine (cube_calls p _ HP.out.1 HP.out.2.1 HY.out).mono ?_); rw [← HP.out.2.2.1]; rintro e w2 ⟨rfl, e1⟩; have E2 := Lib.hid (E1.out.dr e1); clear e1; obtain ⟨u0, c0, f0⟩ := E2.out.cell HP.out.2.2.2))
        refine ⟨⟨p + 1, n + 1, by have := HP.out.1; omega, ?_, HP.out.2.2.2, by norm_cast, by norm_cast, ⟨E2.out.set HP.out.2.2.2⟩⟩, hend⟩
        rw [cnt_yes HP.out.1 HP.out.2.1 HY.out, ← HP.out.2.2.1]
      | false =>
        have HY := Lib.hid hpr
        clear hn hlt hp hp2 hpr hn2
        go_wp2_with (first
          | (go_at_call 68; (with_reducible refine (prime_calls p _ HP.out.1 HP.out.2.1).mono ?_); rw [HY.out]; rintro e w1 ⟨rfl, e1⟩; have E1 := Lib.hid (hH.out.dr e1); clear e1))
        refine ⟨⟨p + 1, n, by have := HP.out.1; omega, ?_, Nat.le_of_lt HP.out.2.2.2, rfl, by norm_cast, ⟨E1.out⟩⟩, hend⟩
        rw [cnt_no HP.out.1 HP.out.2.1 HY.out, ← HP.out.2.2.1]
    · obtain rfl : n = 64 := by omega
      have t1 : decide (((64 : Nat) : Int) < 64) = false := by decide
      have hR := hH.out
      have hK := hR.k
      rw [kPart_all] at hK
      have HK := Lib.hid hK
      have HR := Lib.hid (And.intro (hR.r.there2 (n32 kTab) (by rw [n32_length, n32_length]; rfl)) (And.intro info_k64a info_k64b))
      have hp2 := (hR.r.put (n32 kTab) (by rw [n32_length, n32_length]; rfl)).loadV (P := Tryd.prog) Tryd.underlying93 rfl (by rw [n32_length]; exact info_64)
      have hb := setCells_below (Nat.le_refl _) (n32 kTab) 0 hR.b
      have HB := Lib.hid (And.intro hp2 hb)
      clear hn hn2 hH hR hK hp2 hb hp
      go_wp2_with (first
        | (with_reducible refine wpList_load_mid rfl 93 (.tmp 1) rfl (w.heap.size + 1) 0 rfl (n32 kTab) _ HK.out.at_ Tryd.underlying93 rfl info_k64a ?_)
        | (with_reducible refine wpList_store_mid rfl 93 (.tmp 0) (.tmp 16) rfl w.heap.size 0 (n32 kTab).toArray rfl rfl HR.out.1 info_k64b (all_oneCell_toArray (n32_one kTab)) ?_))
      exact bodyPost_ret (results_arr rfl rfl HB.out.1) rfl ⟨rfl, HB.out.2⟩
end Go.Proofs.YtlmgikhgmbjfdaaDoor.Dig
/- The walks over package sum: bytes filled up to whole chunks. -/
namespace Go.Proofs.YtlmgikhgmbjfdaaDoor.Dig
open Go Go.RowKit Go.Proofs.YtlmgikhgmbjfdaaDoor.QDig Go.Proofs.YtlmgikhgmbjfdaaDoorW.PrintWords Go.Proofs.YtlmgikhgmbjfdaaDoorW.PrintLast Go.Proofs.YtlmgikhgmbjfdaaDoorW.PrintMore Gy

theorem info_u8 : (Tryd.prog.info? 5).map (fun i => (i.zero, i.size, i.bytes)) = some (some (.int .u8 0), 1, 1) := by kernel_rfl
/-- so many of the last eight bytes are there -/
def stage8 (N i : Nat) : List Int := List.replicate (8 - i) 0 ++ (wide8 N).drop (8 - i)
theorem stage8_set (N : Nat) : ∀ i, i < 8 → (stage8 N i).set (7 - i) ((N / 256 ^ i % 256 : Nat) : Int) = stage8 N (i + 1)
  | 0, _ => rfl
  | 1, _ => rfl
  | 2, _ => rfl
  | 3, _ => rfl
  | 4, _ => rfl
  | 5, _ => rfl
  | 6, _ => rfl
  | 7, _ => rfl
  | _ + 8, h => by omega
theorem stage8_length (N : Nat) (i : Nat) (h : i ≤ 8) : (stage8 N i).length = 8 := by
  unfold stage8; rw [List.length_append, List.length_replicate, List.length_drop, wide8_length]; omega
theorem stage8_all (N : Nat) : stage8 N 8 = wide8 N := rfl
def front (xs : List Int) : List Int := xs ++ 128 :: List.replicate (padN xs.length - xs.length - 9) 0
theorem front_length (xs : List Int) : (front xs).length = padN xs.length - 8 := by
  have := padN_le xs.length
  unfold front
  rw [List.length_append, List.length_cons, List.length_replicate]
  omega
def endL (xs : List Int) (i : Nat) : List Int := front xs ++ stage8 (xs.length * 8) i
theorem endL_length (xs : List Int) (i : Nat) (h : i ≤ 8) : (endL xs i).length = padN xs.length := by
  have := padN_le xs.length
  unfold endL
  rw [List.length_append, front_length, stage8_length _ _ h]
  omega
theorem endL_set (xs : List Int) (i : Nat) (h : i < 8) : (endL xs i).set (padN xs.length - 1 - i) ((xs.length * 8 / 256 ^ i % 256 : Nat) : Int) = endL xs (i + 1) := by
  have h1 := padN_le xs.length
  have hl := front_length xs
  unfold endL
  rw [List.set_append_right _ _ (by omega), hl, show padN xs.length - 1 - i - (padN xs.length - 8) = 7 - i from by omega, stage8_set _ i h]
theorem endL_all (xs : List Int) : endL xs 8 = padded xs := rfl
theorem endL_start (xs : List Int) : (xs ++ List.replicate (padN xs.length - xs.length) 0).set xs.length 128 = endL xs 0 := by
  have h1 := padN_le xs.length
  have e : stage8 (xs.length * 8) 0 = List.replicate 8 0 := rfl
  unfold endL front
  rw [e, List.set_append_right _ _ (Nat.le_refl _), Nat.sub_self, show padN xs.length - xs.length = (padN xs.length - xs.length - 1) + 1 from by omega, List.replicate_succ, List.set_cons_zero, List.append_assoc, List.cons_append, List.replicate_append_replicate]
  congr 3
  omega
theorem splice_pad (xs : List Int) (m : Nat) : splice (List.replicate m (Value.int .u8 0)) 0 (nums .u8 xs) = nums .u8 (xs ++ List.replicate (m - xs.length) 0) := by
  unfold splice
  rw [List.take_zero, List.nil_append, List.drop_replicate, Nat.zero_add, nums_len]
  unfold nums
  rw [List.map_append, List.map_replicate]
structure EndAt (w wr : World) (xs : List Int) (i : Nat) : Prop where
  arr : Arr wr w.heap.size (nums .u8 (endL xs i))
  b : Below w.heap.size w wr
theorem EndAt.set {w wr : World} {xs : List Int} {i : Nat} (h : EndAt w wr xs i) (hi : i < 8) :
    EndAt w (wr.setCell ⟨w.heap.size, padN xs.length - 1 - i, none⟩ (.int .u8 ((xs.length * 8 / 256 ^ i % 256 : Nat) : Int))) xs (i + 1) := by
  have h1 := padN_le xs.length
  have h2 := h.arr.set (i := padN xs.length - 1 - i) (by rw [nums_len, endL_length _ _ (by omega)]; omega) (.int .u8 ((xs.length * 8 / 256 ^ i % 256 : Nat) : Int))
  rw [nums_set, endL_set xs i hi] at h2
  exact ⟨h2, h.b.setCell (Nat.le_refl _) _⟩
theorem EndAt.cell {w wr : World} {xs : List Int} {i : Nat} (h : EndAt w wr xs i) (hi : i < 8) : ∃ v, wr.cell? ⟨w.heap.size, padN xs.length - 1 - i, none⟩ = some v ∧ wr.frozen? ⟨w.heap.size, padN xs.length - 1 - i, none⟩ = false := by
  have h1 := padN_le xs.length
  exact ⟨_, h.arr.cell (nums_getD (by rw [endL_length _ _ (by omega)]; omega)), h.arr.fr _⟩
theorem arr_cells {w4 : World} {b : Nat} {t : TypeId} {X Y : List Value} (e : X = Y) (h : Hid (w4.heap[b]? = some (.cells X.toArray t (0, 0)))) : Arr w4 b Y := by
  subst e
  exact Arr.of_cells h
theorem end_start {w w4 : World} {xs : List Int} {m : Nat} (hm : m = padN xs.length) (h : Arr w4 w.heap.size (nums .u8 (xs ++ List.replicate (m - xs.length) 0))) (hb : Below w.heap.size w w4) :
    EndAt w (w4.setCell ⟨w.heap.size, xs.length, none⟩ (.int .u8 128)) xs 0 := by
  subst hm
  have h1 := padN_le xs.length
  have h2 := h.set (i := xs.length) (by rw [nums_len, List.length_append, List.length_replicate]; omega) (.int .u8 128)
  rw [nums_set, endL_start] at h2
  exact ⟨h2, hb.setCell (Nat.le_refl _) _⟩
theorem shr_bytes (N i : Nat) : (N : Int) / 2 ^ (8 * i) % 256 = ((N / 256 ^ i % 256 : Nat) : Int) := by
  have e : (256 : Nat) ^ i = 2 ^ (8 * i) := by rw [show (256 : Nat) = 2 ^ 8 from rfl, ← Nat.pow_mul]
  have e2 : (N : Int) / 2 ^ (8 * i) = ((N / 2 ^ (8 * i) : Nat) : Int) := by norm_cast
  rw [e, e2]
  exact (Int.natCast_emod _ 256).symm
theorem last_byte (n i : Nat) : (n : Int) * 8 / 2 ^ (8 * i) % 256 = ((n * 8 / 256 ^ i % 256 : Nat) : Int) := by
  have h := shr_bytes (n * 8) i
  rw [Int.natCast_mul] at h
  exact h
theorem end_eight {i : Nat} (h : i < 8) : 8 - (intOf (Value.int .i64 ((i : Int) + 1))).toNat < 8 - (intOf (Value.int .i64 (i : Int))).toNat := by
  show 8 - ((i : Int) + 1).toNat < 8 - ((i : Int)).toNat
  omega
set_option maxHeartbeats 4000000 in
set_option maxRecDepth 100000 in
theorem ended_calls (A : Option Addr) (c : Nat) (xs : List Int) (w : World) (hR : ReadsInt w .u8 A xs.length xs) (hx : xs.length ≤ 1000000) :
    Calls Tryd.prog 51 #[.slice A xs.length c] w fun e w' => e = .returned (.slice (some ⟨w.heap.size, 0, none⟩) (padN xs.length) (padN xs.length)) ∧ ReadsInt w' .u8 (some ⟨w.heap.size, 0, none⟩) (padN xs.length) (padded xs) ∧ Below w.heap.size w w' := by
  obtain ⟨m, hm⟩ : ∃ m, m = padN xs.length := ⟨_, rfl⟩
  have hm1 := padN_le xs.length
  have hm2 : m ≤ 1000072 := by rw [hm]; unfold padN; omega
  have hms : ((xs.length : Int) + 1 + 8 + 64 - 1) / 64 * 64 = (m : Int) := by rw [hm]; unfold padN; omega
  rw [← hm] at hm1
  have hmk := print_make (P := Tryd.prog) 39 5 .u8 1 Tryd.underlying39 info_u8 (by decide) m (by omega)
  obtain ⟨CS, hCS⟩ : ∃ CS : List Value, CS = nums .u8 xs := ⟨_, rfl⟩
  have hlen : CS.length = Nat.min xs.length m := by rw [hCS, nums_len]; exact (Nat.min_eq_left (by omega)).symm
  have hone : ∀ v ∈ CS, v.oneCell' = true := by rw [hCS]; exact nums_one _ _
  have hpos : 0 < CS.length → ∃ ad, A = some ad ∧ ∀ j v, CS[j]? = some v → w.cell? (ad.add j) = some v := by
    intro h0
    rw [hCS, nums_len] at h0
    obtain ⟨ad, e, hc⟩ := hR.2.2 h0
    refine ⟨ad, e, fun j v hj => ?_⟩
    rw [hCS] at hj
    have hj1 : j < xs.length := by have := (List.getElem?_eq_some_iff.1 hj).1; rwa [nums_len] at this
    rw [nums_getD hj1] at hj
    injection hj with hj
    rw [hc j hj1, ← hj]
  have hcur : (w.alloc (.cells (madeCells #[.int .u8 0] m) 5)).heap[w.heap.size]? = some (.cells (List.replicate m (Value.int .u8 0)).toArray 5 (0, 0)) := by
    rw [Gy.alloc_at, ← toList_madeCells_one]
  have hsp : splice (List.replicate m (Value.int .u8 0)) 0 CS = nums .u8 (xs ++ List.replicate (m - xs.length) 0) := by rw [hCS]; exact splice_pad xs m
  have HS := Lib.hid (And.intro hsp (And.intro hlen (And.intro hone (And.intro hpos (And.intro hcur (And.intro hm (And.intro hx (And.intro hm1 hm2))))))))
  have hfit : 0 + CS.length ≤ (List.replicate m (Value.int .u8 0)).length := by rw [List.length_replicate, hlen, Nat.zero_add]; exact Nat.min_le_right xs.length m
  clear hR hlen hone hpos hcur hsp hCS hm
  have HF := Lib.hid hfit
  clear hfit
  go_enter Tryd.func51, Tryd.ntmps51
  go_wp2_with (with_reducible refine wpList_copy_splice rfl (.tmp 17) (.tmp 18) 39 39 rfl 5 Tryd.underlying39 (by kernel_rfl) (some ⟨w.heap.size, 0, none⟩) A m m xs.length c rfl rfl w.heap.size 0 (List.replicate m (Value.int .u8 0)) 5 HS.out.2.2.2.2.1 CS HS.out.2.1 (fun h => ⟨rfl, by
      obtain ⟨ad, e, hc⟩ := HS.out.2.2.2.1 h
      exact ⟨ad, e, fun j v hj => by
        have h1 := hc j v hj
        have hlt : (ad.add j).block < w.heap.size := by
          rcases Nat.lt_or_ge (ad.add j).block w.heap.size with h' | h'
          · exact h'
          · simp [World.cell?, Array.getElem?_eq_none h'] at h1
        rw [(Gy.alloc_below w _).cell hlt]; exact h1⟩⟩) HF.out HS.out.2.2.1 w.heap.size w (Gy.alloc_below w _) (Nat.le_refl _) ?_; intro w4 hg4 hb4; have H4 := Lib.hid (And.intro (arr_cells HS.out.1 hg4) hb4); clear hg4 hb4; have c0 := H4.out.1.cell (nums_getD (k := .u8) (i := xs.length) (by rw [List.length_append, List.length_replicate]; have := HS.out.2.2.2.2.2.2.2.1; omega)); have f0 := H4.out.1.fr xs.length)
  have HE := Lib.hid (end_start HS.out.2.2.2.2.2.1 H4.out.1 H4.out.2)
  clear c0 f0 H4 hmk
  go_loopw [28] (fun v28 wr => ∃ i : Nat, i ≤ 8 ∧ v28 = .int .i64 (i : Int) ∧ Gy.Hd (EndAt w wr xs i)) (fun v28 _ => 8 - (intOf v28).toNat)
  case atStart => exact ⟨0, by omega, rfl, ⟨HE.out⟩⟩
  case round =>
    obtain ⟨i, hi, rfl, hH⟩ := hrel
    clear HE
    have HM := HS.out.2.2.2.2.2.1
    by_cases hi8 : i < 8
    · have t1 : decide ((i : Int) < 8) = true := by simp; omega
      obtain ⟨u0, c0, f0⟩ := hH.out.cell hi8
      rw [← HM] at c0 f0
      have hwi : wrap64 ((i : Int) + 1) = (i : Int) + 1 := by unfold wrap64; omega
      have hend := end_eight hi8
      have HX := Lib.hid (And.intro hi8 HM)
      clear HM
      have HV := Lib.hid (last_byte xs.length i)
      go_wp2
      refine ⟨⟨i + 1, HX.out.1, by norm_cast, ⟨?_⟩⟩, hend⟩
      rw [HV.out, HX.out.2]
      exact hH.out.set HX.out.1
    · obtain rfl : i = 8 := by omega
      have t1 : decide (((8 : Nat) : Int) < 8) = false := by decide
      have HM2 := Lib.hid HM
      clear HM
      go_wp2
      go_ret
      have hr := hH.out.arr.reads (by rw [endL_length _ _ (Nat.le_refl _), ← HM2.out]; omega)
      rw [endL_length _ _ (Nat.le_refl _), endL_all] at hr
      exact ⟨by rw [HM2.out]; rfl, hr, hH.out.b⟩
end Go.Proofs.YtlmgikhgmbjfdaaDoor.Dig
/- The walks over package sum: a word turned leaves the world as it is. -/
namespace Go.Proofs.YtlmgikhgmbjfdaaDoor.Dig
open Go Go.RowKit Go.Proofs.YtlmgikhgmbjfdaaDoor.QDig Go.Proofs.YtlmgikhgmbjfdaaDoorW.PrintWords Go.Proofs.YtlmgikhgmbjfdaaDoorW.PrintLast Go.Proofs.YtlmgikhgmbjfdaaDoorW.PrintMore Gy

set_option maxHeartbeats 8000000 in
set_option maxRecDepth 100000 in
theorem rot_same (a0 : Int) (a1 : Int) (r : Int) (w : World) (h : bits_RotateLeft32.f a0 a1 = some r) :
    Calls Tryd.prog 82 #[.int .u32 a0, .int .i64 a1] w fun e w' => e = .returned (.int .u32 r) ∧ w' = w := by
  have H : (if 0 ≤ (Go.bits .and .u64 (IntKind.u64.wrap (a1)) 31) then (if 0 ≤ (IntKind.u64.wrap (32 - (Go.bits .and .u64 (IntKind.u64.wrap (a1)) 31))) then (some (Go.bits .or .u32 (shl .u32 a0 (Go.bits .and .u64 (IntKind.u64.wrap (a1)) 31)) (shr .u32 a0 (IntKind.u64.wrap (32 - (Go.bits .and .u64 (IntKind.u64.wrap (a1)) 31)))))) else (none)) else (none)) = some r := h
  clear h
  obtain ⟨ji3, hji3⟩ : ∃ j_ : Int, (Go.bits .and .u64 (IntKind.u64.wrap (a1)) 31) = j_ := ⟨_, rfl⟩
  replace H : (if 0 ≤ (ji3) then (if 0 ≤ (IntKind.u64.wrap (32 - (ji3))) then (some (Go.bits .or .u32 (shl .u32 a0 (ji3)) (shr .u32 a0 (IntKind.u64.wrap (32 - (ji3)))))) else (none)) else (none)) = some r := by rw [hji3] at H; exact H
  by_cases c4 : 0 ≤ (ji3)
  · rw [if_pos c4] at H
    have c4b0 := eq_true c4
    have c4b1 : decide (0 ≤ (ji3)) = true := decide_eq_true c4
    clear c4
    obtain ⟨ji5, hji5⟩ : ∃ j_ : Int, (shl .u32 a0 (ji3)) = j_ := ⟨_, rfl⟩
    replace H : (if 0 ≤ (IntKind.u64.wrap (32 - (ji3))) then (some (Go.bits .or .u32 (ji5) (shr .u32 a0 (IntKind.u64.wrap (32 - (ji3)))))) else (none)) = some r := by rw [hji5] at H; exact H
    have hji5_ : (IntKind.u32.wrap (a0 * 2 ^ min (ji3).toNat 32)) = ji5 := hji5
    have hji5z : (ji3) ≤ 32 → (IntKind.u32.wrap (a0 * 2 ^ (ji3).toNat)) = ji5 := shl_small hji5
    obtain ⟨ji6, hji6⟩ : ∃ j_ : Int, (IntKind.u64.wrap (32 - (ji3))) = j_ := ⟨_, rfl⟩
    replace H : (if 0 ≤ (ji6) then (some (Go.bits .or .u32 (ji5) (shr .u32 a0 (ji6)))) else (none)) = some r := by rw [hji6] at H; exact H
    by_cases c7 : 0 ≤ (ji6)
    · rw [if_pos c7] at H
      have c7b0 := eq_true c7
      have c7b1 : decide (0 ≤ (ji6)) = true := decide_eq_true c7
      clear c7
      obtain ⟨ji8, hji8⟩ : ∃ j_ : Int, (shr .u32 a0 (ji6)) = j_ := ⟨_, rfl⟩
      replace H : (some (Go.bits .or .u32 (ji5) (ji8))) = some r := by rw [hji8] at H; exact H
      have hji8_ : (a0 / 2 ^ min (ji6).toNat 32) = ji8 := hji8
      have hji8z : (ji6) ≤ 32 → (a0 / 2 ^ (ji6).toNat) = ji8 := shr_small hji8
      obtain rfl := Option.some.inj H
      go_enter Tryd.func82, Tryd.ntmps82
      go_wp2
      go_ret
      exact ⟨by first | rfl | (simp; done) | (simp only [← hji3, ← hji5, ← hji6, ← hji8] <;> (first | rfl | simp)) | (simp [*]; done), rfl⟩
    · rw [if_neg c7] at H
      exact absurd H (by simp)
  · rw [if_neg c4] at H
    exact absurd H (by simp)
set_option maxHeartbeats 8000000 in
set_option maxRecDepth 100000 in
theorem right_some (a0 : Int) (a1 : Int) (r : Int) (w : World) (h : sum_right.f a0 a1 = some r) :
    Calls Tryd.prog 71 #[.int .u32 a0, .int .i64 a1] w fun e w' => e = .returned (.int .u32 r) ∧ w' = w := by
  have H : ((bits_RotateLeft32.f a0 (wrap64 (-a1))).bind fun t106 => (some t106)) = some r := h
  clear h
  replace H := Option.bind_eq_some_iff.mp H
  obtain ⟨t106, A30, H⟩ := H
  replace H : (some t106) = some r := H
  have A3 := Aside0.mk A30
  clear A30
  obtain rfl := Option.some.inj H
  go_enter Tryd.func71, Tryd.ntmps71
  go_wp2_with (go_at_call 82; (with_reducible refine (rot_same a0 (wrap64 (-a1)) t106 _ A3.out).mono ?_); rintro e w' ⟨rfl, rfl⟩)
  go_ret
  exact ⟨rfl, rfl⟩
theorem right_same (x : Nat) (n : Int) (w : World) (m : Nat) (hx : x < 4294967296) (h : n = (m : Int)) (h1 : 1 ≤ m) (h2 : m ≤ 31) :
    Calls Tryd.prog 71 #[.int .u32 (x : Int), .int .i64 n] w fun e w' => e = .returned (.int .u32 ((ror m x : Nat) : Int)) ∧ w' = w := right_some _ _ _ w (right_lit hx n m h h1 h2)
end Go.Proofs.YtlmgikhgmbjfdaaDoor.Dig
/- The walks over package sum: a chunk of bytes is mixed in. -/
namespace Go.Proofs.YtlmgikhgmbjfdaaDoor.Dig
open Go Go.RowKit Go.Proofs.YtlmgikhgmbjfdaaDoor.QDig Go.Proofs.YtlmgikhgmbjfdaaDoorW.PrintWords Go.Proofs.YtlmgikhgmbjfdaaDoorW.PrintLast Go.Proofs.YtlmgikhgmbjfdaaDoorW.PrintMore Gy

/-- so many words are there -/
def wL (b : List Int) (i : Nat) : List Nat := (List.range i).map (wAt b) ++ List.replicate (64 - i) 0
theorem wL_length (b : List Int) (i : Nat) (h : i ≤ 64) : (wL b i).length = 64 := by
  unfold wL; rw [List.length_append, List.length_map, List.length_range, List.length_replicate]; omega
theorem wL_set (b : List Int) (i : Nat) (h : i < 64) : (wL b i).set i (wAt b i) = wL b (i + 1) := by
  have hl : ((List.range i).map (wAt b)).length = i := by rw [List.length_map, List.length_range]
  unfold wL
  rw [List.set_append_right _ _ (by omega), hl, Nat.sub_self, show 64 - i = (64 - (i + 1)) + 1 from by omega, List.replicate_succ, List.set_cons_zero, List.range_succ, List.map_append, List.append_assoc]
  rfl
theorem wL_at (b : List Int) (i j : Nat) (h : j < i) : (wL b i).getD j 0 = wAt b j := by
  unfold wL
  rw [List.getD_eq_getElem?_getD, List.getElem?_append_left (by rw [List.length_map, List.length_range]; omega), List.getElem?_map, List.getElem?_range h]
  rfl
structure MixAt (w wr : World) (b : List Int) (s : St) (j i : Nat) : Prop where
  S : Arr wr w.heap.size (n32 s.nats)
  K : Arr wr (w.heap.size + 1) (n32 kTab)
  R : Arr wr (w.heap.size + 1 + 1) (n32 (List.replicate 8 0))
  W : Arr wr (w.heap.size + 1 + 1 + 1) (n32 (wL b j))
  T : Arr wr (w.heap.size + 1 + 1 + 1 + 1) (n32 (mixed kTab b s i).nats)
  B : Below w.heap.size w wr
set_option maxRecDepth 100000 in
theorem zero_st : ∃ zs : Array Value, zs = (n32 (List.replicate 8 0)).toArray ∧ ∀ W : World, (zeroValue 96).run Tryd.prog W = .ok (.agg zs) W := by
  refine ⟨_, rfl, fun W => ?_⟩
  kernel_rfl
theorem info_st : (Tryd.prog.info? 96).map (·.size) = some 8 := by kernel_rfl
theorem sub_facts (i : Nat) (z : Int) (k : Nat) (hz : z = (k : Int)) (h : k ≤ i) (h2 : i ≤ 64) : IntKind.i64.wrap ((i : Int) - z) = (i : Int) - z ∧ 0 ≤ (i : Int) - z ∧ ((i : Int) - z).toNat = i - k := by
  subst hz
  refine ⟨?_, by omega, by omega⟩
  rw [Gy.wrapI64]; omega
theorem MixAt.wcell {w wr : World} {b : List Int} {s : St} {i : Nat} (h : MixAt w wr b s i i) (hi : i < 64) (j : Nat) (hj : j < i) : wr.cell? ⟨w.heap.size + 1 + 1 + 1, j, none⟩ = some (.int .u32 ((wAt b j : Nat) : Int)) := by
  have := h.W.cell (n32_at (l := wL b i) (i := j) (by rw [wL_length _ _ (by omega)]; omega))
  rw [wL_at _ _ _ hj] at this
  exact this
theorem MixAt.below {w wr w' : World} {b : List Int} {s : St} {j i : Nat} (h : MixAt w wr b s j i) (hb : Below wr.heap.size wr w') : MixAt w w' b s j i :=
  ⟨h.S.below hb, h.K.below hb, h.R.below hb, h.W.below hb, h.T.below hb, h.B.trans (hb.mono h.B.size)⟩
theorem MixAt.setW {w wr : World} {b : List Int} {s : St} {i : Nat} (h : MixAt w wr b s i i) (hi : i < 64) : MixAt w (wr.setCell ⟨w.heap.size + 1 + 1 + 1, i, none⟩ (.int .u32 ((wAt b i : Nat) : Int))) b s (i + 1) i := by
  have h2 := h.W.set (i := i) (by rw [n32_length, wL_length _ _ (by omega)]; omega) (.int .u32 ((wAt b i : Nat) : Int))
  rw [n32_set, wL_set b i hi] at h2
  exact ⟨h.S.far (by omega) _ _, h.K.far (by omega) _ _, h.R.far (by omega) _ _, h2, h.T.far (by omega) _ _, h.B.setCell (show w.heap.size ≤ w.heap.size + 1 + 1 + 1 by omega) _⟩
theorem MixAt.setT {w wr : World} {b : List Int} {s : St} {i : Nat} (h : MixAt w wr b s (i + 1) i) :
    MixAt w (wr.setCells (w.heap.size + 1 + 1 + 1 + 1) 0 (n32 (rnd (mixed kTab b s i) ((kTab.getD i 0 + wAt b i) % 4294967296)).nats)) b s (i + 1) (i + 1) :=
  ⟨h.S.far_cells (by omega) _ _, h.K.far_cells (by omega) _ _, h.R.far_cells (by omega) _ _, h.W.far_cells (by omega) _ _, h.T.put _ (by rw [n32_length, n32_length]; rfl), setCells_below (show w.heap.size ≤ w.heap.size + 1 + 1 + 1 + 1 by omega) _ _ h.B⟩
theorem mix_before (w : World) (zs zt : Array Value) (s : St) :
    Arr ((((w.alloc (.cells (n32 s.nats).toArray 96)).alloc (.cells (n32 kTab).toArray 93)).alloc (.cells zs 96)).alloc (.cells zt 93)) w.heap.size (n32 s.nats) :=
  (((Arr.fresh w (n32 s.nats) _ rfl 96).alloc _).alloc _).alloc _
theorem mix_start (w : World) (zs zt : Array Value) (hz : zs = (n32 (List.replicate 8 0)).toArray) (ht : zt = (n32 (List.replicate 64 0)).toArray) (b : List Int) (s : St) (wr : World)
    (hw : wr = (((((w.alloc (.cells (n32 s.nats).toArray 96)).alloc (.cells (n32 kTab).toArray 93)).alloc (.cells zs 96)).alloc (.cells zt 93)).alloc (.cells zs 96))) :
    wr.there (w.heap.size + 1 + 1 + 1 + 1) 0 (n32 s.nats).toArray.size ∧ MixAt w (wr.setCells (w.heap.size + 1 + 1 + 1 + 1) 0 (n32 s.nats)) b s 0 0 := by
  subst hw
  have e1 : ∀ (w : World) (o : Obj), (w.alloc o).heap.size = w.heap.size + 1 := size_alloc'
  have h1 := Arr.fresh w (n32 s.nats) _ rfl 96
  have h2 := Arr.fresh (w.alloc (.cells (n32 s.nats).toArray 96)) (n32 kTab) _ rfl 93
  have h3 := Arr.fresh ((w.alloc (.cells (n32 s.nats).toArray 96)).alloc (.cells (n32 kTab).toArray 93)) _ zs hz 96
  have h4 := Arr.fresh (((w.alloc (.cells (n32 s.nats).toArray 96)).alloc (.cells (n32 kTab).toArray 93)).alloc (.cells zs 96)) _ zt ht 93
  have h5 := Arr.fresh ((((w.alloc (.cells (n32 s.nats).toArray 96)).alloc (.cells (n32 kTab).toArray 93)).alloc (.cells zs 96)).alloc (.cells zt 93)) _ zs hz 96
  simp only [e1] at h1 h2 h3 h4 h5
  have hl : (n32 s.nats).length = (n32 (List.replicate 8 0)).length := by rw [n32_length, n32_length]; rfl
  refine ⟨h5.there2 _ hl, ((((h1.alloc _).alloc _).alloc _).alloc _).far_cells (by omega) _ _, (((h2.alloc _).alloc _).alloc _).far_cells (by omega) _ _, ((h3.alloc _).alloc _).far_cells (by omega) _ _, (h4.alloc _).far_cells (by omega) _ _, h5.put _ hl, ?_⟩
  have b1 := Below.refl w.heap.size w
  exact setCells_below (by omega) _ _ (((((b1.alloc (Nat.le_refl _) _).alloc (by simp only [e1]; omega) _).alloc (by simp only [e1]; omega) _).alloc (by simp only [e1]; omega) _).alloc (by simp only [e1]; omega) _)
theorem info_stA (s : St) : (Tryd.prog.info? 96).map (·.size) = some (n32 s.nats).length := info_st
theorem info_stB (s : St) : (Tryd.prog.info? 96).map (·.size) = some (n32 s.nats).toArray.size := info_st
/-- b[4*i:] -/
theorem cut_at (A : Option Addr) (c : Nat) (b : List Int) (i : Nat) (h : 4 * i + 4 ≤ b.length) (hc : b.length ≤ c) :
    ∃ A' L c', (∀ W : World, (Instr.slice 39 (.slice A b.length c) (some (.int .i64 (4 * (i : Int)))) none none).run Tryd.prog W = .ok (.slice A' L c') W) ∧ (∀ w : World, ReadsInt w .u8 A b.length b → ReadsInt w .u8 A' L (b.drop (4 * i))) ∧ 4 ≤ L ∧ L ≤ c' := by
  obtain ⟨i0, hi, hzz⟩ := Option.map_eq_some_iff.1 info_u8
  simp only [Prod.mk.injEq] at hzz
  obtain ⟨hz0, hz1, hz2⟩ := hzz
  obtain ⟨A', h1, h2, h3⟩ := print_cut_int (P := Tryd.prog) (k := .u8) 39 5 Tryd.underlying39 hi hz1 A c b (4 * (i : Int)) (by omega) (by omega) hc
  have e : (4 * (i : Int)).toNat = 4 * i := by omega
  rw [e] at h2
  refine ⟨A', _, _, h1, fun w hr => ?_, ?_, h3⟩
  · have := h2 w hr
    rw [e]; exact this
  · rw [e, List.length_drop]; omega
theorem round_at (s : St) (y : Int) (x : Nat) (w : World) (h : s.ok) (hy : y = (x : Int)) :
    Calls Tryd.prog 72 #[.agg #[.int .u32 (s.a : Int), .int .u32 (s.b : Int), .int .u32 (s.c : Int), .int .u32 (s.d : Int), .int .u32 (s.e : Int), .int .u32 (s.f : Int), .int .u32 (s.g : Int), .int .u32 (s.h : Int)], .int .u32 y] w fun e w' => e = .returned (.agg (n32 (rnd s x).nats).toArray) ∧ Below w.heap.size w w' := by
  subst hy
  exact round_calls s x w h
theorem end_64 {i : Nat} (h : i < 64) : 64 - (intOf (Value.int .i64 ((i : Int) + 1))).toNat < 64 - (intOf (Value.int .i64 (i : Int))).toNat := by
  show 64 - ((i : Int) + 1).toNat < 64 - ((i : Int)).toNat
  omega
/-- what the round's end reads -/
structure MixFacts (w wr : World) (t : St) (k x i : Nat) : Prop where
  c0 : wr.cell? ⟨w.heap.size + 1 + 1 + 1 + 1, 0, none⟩ = some (.int .u32 (t.a : Int))
  c1 : wr.cell? ⟨w.heap.size + 1 + 1 + 1 + 1, 1, none⟩ = some (.int .u32 (t.b : Int))
  c2 : wr.cell? ⟨w.heap.size + 1 + 1 + 1 + 1, 2, none⟩ = some (.int .u32 (t.c : Int))
  c3 : wr.cell? ⟨w.heap.size + 1 + 1 + 1 + 1, 3, none⟩ = some (.int .u32 (t.d : Int))
  c4 : wr.cell? ⟨w.heap.size + 1 + 1 + 1 + 1, 4, none⟩ = some (.int .u32 (t.e : Int))
  c5 : wr.cell? ⟨w.heap.size + 1 + 1 + 1 + 1, 5, none⟩ = some (.int .u32 (t.f : Int))
  c6 : wr.cell? ⟨w.heap.size + 1 + 1 + 1 + 1, 6, none⟩ = some (.int .u32 (t.g : Int))
  c7 : wr.cell? ⟨w.heap.size + 1 + 1 + 1 + 1, 7, none⟩ = some (.int .u32 (t.h : Int))
  ck : wr.cell? ⟨w.heap.size + 1, i, none⟩ = some (.int .u32 (k : Int))
  cx : wr.cell? ⟨w.heap.size + 1 + 1 + 1, i, none⟩ = some (.int .u32 (x : Int))
theorem MixAt.facts {w wr : World} {b : List Int} {s : St} {i : Nat} (h : MixAt w wr b s (i + 1) i) (hi : i < 64) : MixFacts w wr (mixed kTab b s i) (kTab.getD i 0) (wAt b i) i := by
  refine ⟨h.T.cell rfl, h.T.cell rfl, h.T.cell rfl, h.T.cell rfl, h.T.cell rfl, h.T.cell rfl, h.T.cell rfl, h.T.cell rfl, h.K.cell (n32_at (by rw [kTab_length]; exact hi)), ?_⟩
  have := h.W.cell (n32_at (l := wL b (i + 1)) (i := i) (by rw [wL_length _ _ (by omega)]; exact hi))
  rw [wL_at _ _ _ (Nat.lt_succ_self i)] at this
  exact this
theorem sched_form {x16 x15 x7 x2 : Nat} (_h16 : x16 < 4294967296) (h15 : x15 < 4294967296) (_h7 : x7 < 4294967296) (h2 : x2 < 4294967296) :
    ((((x16 : Int) + (x7 : Int)) % 4294967296 + Go.bits .xor .u32 (Go.bits .xor .u32 ((ror 7 x15 : Nat) : Int) ((ror 18 x15 : Nat) : Int)) ((x15 : Int) / 8)) % 4294967296 + Go.bits .xor .u32 (Go.bits .xor .u32 ((ror 17 x2 : Nat) : Int) ((ror 19 x2 : Nat) : Int)) ((x2 : Int) / 1024)) % 4294967296 = (((x16 + ss0 x15 + x7 + ss1 x2) % 4294967296 : Nat) : Int) := by
  have e8 : (x15 : Int) / 8 = ((x15 / 8 : Nat) : Int) := by omega
  have e9 : (x2 : Int) / 1024 = ((x2 / 1024 : Nat) : Int) := by omega
  rw [e8, e9, xorN (ror_lt h15) (ror_lt h15), xorN (xor32 (ror_lt h15) (ror_lt h15)) (Nat.lt_of_le_of_lt (Nat.div_le_self _ _) h15), xorN (ror_lt h2) (ror_lt h2), xorN (xor32 (ror_lt h2) (ror_lt h2)) (Nat.lt_of_le_of_lt (Nat.div_le_self _ _) h2)]
  change ((((x16 : Int) + (x7 : Int)) % 4294967296 + ((ss0 x15 : Nat) : Int)) % 4294967296 + ((ss1 x2 : Nat) : Int)) % 4294967296 = _
  generalize ss0 x15 = p
  generalize ss1 x2 = q
  omega
theorem sum_form (k x : Nat) : ((k : Int) + (x : Int)) % 4294967296 = (((k + x) % 4294967296 : Nat) : Int) := by
  rw [← Int.natCast_add]
  exact (Int.natCast_emod _ 4294967296).symm
set_option maxHeartbeats 8000000 in
set_option maxRecDepth 100000 in
theorem mix_calls (s : St) (A : Option Addr) (c : Nat) (b : List Int) (w : World) (hs : s.ok) (hR : ReadsInt w .u8 A b.length b) (hb : Bytes b) (h64 : 64 ≤ b.length) (hc : b.length ≤ c) (hl : b.length ≤ 2000000) :
    Calls Tryd.prog 52 #[.agg (n32 s.nats).toArray, .slice A b.length c, .agg (n32 kTab).toArray] w fun e w' => e = .returned (.agg (n32 (mixSt kTab b s).nats).toArray) ∧ Below w.heap.size w w' := by
  obtain ⟨t64, ht⟩ : ∃ t, t = mixed kTab b s 64 := ⟨_, rfl⟩
  have hmx : mixSt kTab b s = s.plus t64 := by rw [ht]; rfl
  rw [hmx]
  have HT64 := Lib.hid ht
  clear ht hmx
  obtain ⟨zs, hzs, hz8⟩ := zero_st
  obtain ⟨zt, hzt, hz64⟩ := zero_64
  have HS := Lib.hid (And.intro (mix_before w zs zt s) (mix_start w zs zt hzs hzt b s _ rfl))
  have HR := Lib.hid (And.intro hR (And.intro hb (And.intro h64 (And.intro hc hl))))
  have HO := Lib.hid hs
  clear hR hb h64 hc hl hzs hzt hs
  go_enter Tryd.func52, Tryd.ntmps52
  go_wp2_with (first
    | (with_reducible refine wpList_load_mid rfl 96 (.tmp 3) rfl w.heap.size 0 rfl (n32 s.nats) _ HS.out.1.at_ Tryd.underlying96 rfl (info_stA s) ?_)
    | (with_reducible refine wpList_store_mid rfl 96 (.tmp 8) (.tmp 12) rfl (w.heap.size + 1 + 1 + 1 + 1) 0 (n32 s.nats).toArray rfl rfl HS.out.2.1 (info_stB s) (all_oneCell_toArray (n32_one s.nats)) ?_))
  go_loopw [13] (fun v13 wr => ∃ i : Nat, i ≤ 64 ∧ v13 = .int .i64 (i : Int) ∧ Gy.Hd (MixAt w wr b s i i)) (fun v13 _ => 64 - (intOf v13).toNat)
  case atStart => exact ⟨0, by omega, rfl, ⟨HS.out.2.2⟩⟩
  case round =>
    obtain ⟨i, hi, rfl, hM⟩ := hrel
    clear HS
    by_cases hi64 : i < 64
    · have t1 : decide ((i : Int) < 64) = true := by simp; omega
      have HI := Lib.hid hi64
      have hwi : wrap64 ((i : Int) + 1) = (i : Int) + 1 := by unfold wrap64; omega
      have hend := end_64 hi64
      clear hi
      by_cases hi16 : i < 16
      · have t2 : decide ((i : Int) < 16) = true := by simp; omega
        obtain ⟨A', L, c', m1, m2, m3, m4⟩ := cut_at A c b i (by have := HR.out.2.2.1; omega) HR.out.2.2.2.1
        have HN := Lib.hid (And.intro (m2 wr (Gy.reads_below HR.out.1 hM.out.B)) (And.intro m4 (And.intro (HR.out.2.1.drop (4 * i)) m3)))
        have HW := Lib.hid (wAt_low b hi16)
        clear m2 m3 m4
        go_wp2_with (first
          | (go_at_call 70; (with_reducible refine (number_calls A' L c' (b.drop (4 * i)) _ HN.out.1 HN.out.2.1 HN.out.2.2.1 HN.out.2.2.2).mono ?_); rw [← HW.out]; rintro e w1 ⟨rfl, e1⟩; have E1 := Lib.hid (hM.out.below e1.below); clear e1; have cw := E1.out.W.cell (n32_at (i := i) (by rw [wL_length _ _ (by have := HI.out; omega)]; exact HI.out)); have fw := E1.out.W.fr i))
        have M2 := Lib.hid (E1.out.setW HI.out)
        generalize w1.setCell ⟨w.heap.size + 1 + 1 + 1, i, none⟩ (.int .u32 ((wAt b i : Nat) : Int)) = w2 at M2 ⊢
        clear E1 cw fw HN HW m1
        have HP := Lib.hid (fun (w3 : World) (h : MixAt w w3 b s (i + 1) i) => h.setT)
        have hf := M2.out.facts HI.out
        have HT := Lib.hid (mixed_ok (K := kTab) (b := b) HO.out i)
        generalize mixed kTab b s i = t at hf HT HP
        generalize kTab.getD i 0 = k at hf HP
        generalize wAt b i = x at hf HP ⊢
        obtain ⟨c0, c1, c2, c3, c4, c5, c6, c7, ck, cx⟩ := hf
        have HXY := Lib.hid (sum_form k x)
        have hlt : (i : Int) < 64 := by have := HI.out; omega
        go_still_tail 8, (by kernel_rfl)
        change wpList _ _ _ _ _ w2.drew
        have M3 := Lib.hid (M2.out.below (Gy.drew_below _))
        generalize w2.drew = w3 at M3 ⊢
        clear c0 c1 c2 c3 c4 c5 c6 c7 ck cx M2
        go_wp2_with (first
          | (go_at_call 72; (with_reducible refine (round_at t _ ((k + x) % 4294967296) _ HT.out HXY.out).mono ?_); rintro e w4 ⟨rfl, e1⟩; have M4 := Lib.hid (M3.out.below e1); clear e1; have M5 := Lib.hid (M4.out.T.there2 (n32 (rnd t ((k + x) % 4294967296)).nats) (by rw [n32_length, n32_length]; rfl)))
          | (with_reducible refine wpList_store_mid rfl 96 (.tmp 8) (.tmp 70) rfl (w.heap.size + 1 + 1 + 1 + 1) 0 (n32 (rnd t ((k + x) % 4294967296)).nats).toArray rfl rfl M5.out (info_stB _) (all_oneCell_toArray (n32_one _)) ?_))
        exact ⟨⟨i + 1, HI.out, by norm_cast, ⟨HP.out _ M4.out⟩⟩, hend⟩
      · have t2 : decide ((i : Int) < 16) = false := by simp; omega
        have HWA := Lib.hid (wAt_high b hi16)
        have b16 : (16 : Int) ≤ (i : Int) := by omega
        have b15 : (15 : Int) ≤ (i : Int) := by omega
        have b7 : (7 : Int) ≤ (i : Int) := by omega
        have b2 : (2 : Int) ≤ (i : Int) := by omega
        have l16 : (i : Int) - 16 < 64 := by omega
        have l15 : (i : Int) - 15 < 64 := by omega
        have l7 : (i : Int) - 7 < 64 := by omega
        have l2 : (i : Int) - 2 < 64 := by omega
        have hlt : (i : Int) < 64 := by omega
        have c15 := hM.out.wcell hi64 (i - 15) (by omega)
        have c2 := hM.out.wcell hi64 (i - 2) (by omega)
        have HBT := Lib.hid HR.out.2.1
        have HLT := Lib.hid (And.intro (wAt_lt HBT.out (i - 16)) (And.intro (wAt_lt HBT.out (i - 15)) (And.intro (wAt_lt HBT.out (i - 7)) (wAt_lt HBT.out (i - 2)))))
        have HI16 := Lib.hid hi16
        clear hi16
        go_wp2
        go_quiet (fail)
        have M1 := Lib.hid (hM.out.below (pw_below_drewN (Below.refl _ _) nq))
        generalize wr.drewN nq = w1 at M1 ⊢
        clear c15 c2
        go_wp2
        have c16 := M1.out.wcell HI.out (i - 16) (by have := HI16.out; omega)
        have c7 := M1.out.wcell HI.out (i - 7) (by have := HI16.out; omega)
        have cw := M1.out.W.cell (n32_at (i := i) (by rw [wL_length _ _ (by have := HI.out; omega)]; exact HI.out))
        have fw := M1.out.W.fr i
        obtain ⟨p16, q16, r16⟩ := sub_facts i 16 16 rfl (by have := HI16.out; omega) (by have := HI.out; omega)
        obtain ⟨p7, q7, r7⟩ := sub_facts i 7 7 rfl (by have := HI16.out; omega) (by have := HI.out; omega)
        generalize wAt b (i - 16) = x16 at c16 HWA HLT ⊢
        generalize wAt b (i - 15) = x15 at HWA HLT ⊢
        generalize wAt b (i - 7) = x7 at c7 HWA HLT ⊢
        generalize wAt b (i - 2) = x2 at HWA HLT ⊢
        go_still_tail 29, (by kernel_rfl)
        still_call (right_same x15 7 _ 7 HLT.out.2.1 rfl (by omega) (by omega))
        repeat still_step
        still_call (right_same x15 18 _ 18 HLT.out.2.1 rfl (by omega) (by omega))
        repeat still_step
        still_call (right_same x2 17 _ 17 HLT.out.2.2.2 rfl (by omega) (by omega))
        repeat still_step
        still_call (right_same x2 19 _ 19 HLT.out.2.2.2 rfl (by omega) (by omega))
        repeat still_step
        refine wpStill_nil ?_
        change wpList _ _ _ _ _ w1.drew
        go_wp2
        rw [sched_form HLT.out.1 HLT.out.2.1 HLT.out.2.2.1 HLT.out.2.2.2, ← HWA.out]
        have M2 := Lib.hid ((M1.out.setW HI.out).below (Gy.drew_below _))
        generalize (w1.setCell ⟨w.heap.size + 1 + 1 + 1, i, none⟩ (.int .u32 ((wAt b i : Nat) : Int))).drew = w2 at M2 ⊢
        clear c16 c7 cw fw M1 p16 q16 r16 p7 q7 r7 b16 b15 b7 b2 l16 l15 l7 l2 HWA HLT
        have HP := Lib.hid (fun (w3 : World) (h : MixAt w w3 b s (i + 1) i) => h.setT)
        have hf := M2.out.facts HI.out
        have HT := Lib.hid (mixed_ok (K := kTab) (b := b) HO.out i)
        generalize mixed kTab b s i = t at hf HT HP
        generalize kTab.getD i 0 = k at hf HP
        generalize wAt b i = x at hf HP ⊢
        obtain ⟨c0, c1, c2, c3, c4, c5, c6, c7, ck, cx⟩ := hf
        have HXY := Lib.hid (sum_form k x)
        have hlt : (i : Int) < 64 := by have := HI.out; omega
        go_still_tail 8, (by kernel_rfl)
        change wpList _ _ _ _ _ w2.drew
        have M3 := Lib.hid (M2.out.below (Gy.drew_below _))
        generalize w2.drew = w3 at M3 ⊢
        clear c0 c1 c2 c3 c4 c5 c6 c7 ck cx M2
        go_wp2_with (first
          | (go_at_call 72; (with_reducible refine (round_at t _ ((k + x) % 4294967296) _ HT.out HXY.out).mono ?_); rintro e w4 ⟨rfl, e1⟩; have M4 := Lib.hid (M3.out.below e1); clear e1; have M5 := Lib.hid (M4.out.T.there2 (n32 (rnd t ((k + x) % 4294967296)).nats) (by rw [n32_length, n32_length]; rfl)))
          | (with_reducible refine wpList_store_mid rfl 96 (.tmp 8) (.tmp 70) rfl (w.heap.size + 1 + 1 + 1 + 1) 0 (n32 (rnd t ((k + x) % 4294967296)).nats).toArray rfl rfl M5.out (info_stB _) (all_oneCell_toArray (n32_one _)) ?_))
        exact ⟨⟨i + 1, HI.out, by norm_cast, ⟨HP.out _ M4.out⟩⟩, hend⟩
    · obtain rfl : i = 64 := by omega
      have t1 : decide (((64 : Nat) : Int) < 64) = false := by decide
      have HM := Lib.hid hM.out
      have H4 : Hid (Arr wr (w.heap.size + 1 + 1 + 1 + 1) (n32 t64.nats)) := by rw [HT64.out]; exact Lib.hid hM.out.T
      have HQ := Lib.hid (fun (w4 : World) (e1 : Below wr.heap.size wr w4) => (And.intro ((hM.out.below e1).R.there2 (n32 (s.plus t64).nats) (by rw [n32_length, n32_length]; rfl)) (And.intro (((hM.out.below e1).R.put (n32 (s.plus t64).nats) (by rw [n32_length, n32_length]; rfl)).loadV (P := Tryd.prog) Tryd.underlying96 rfl (info_stA _)) (setCells_below (show w.heap.size ≤ w.heap.size + 1 + 1 by omega) (n32 (s.plus t64).nats) 0 (hM.out.below e1).B))))
      clear hM hi
      go_wp2_with (first
        | (with_reducible refine wpList_load_mid rfl 96 (.tmp 3) rfl w.heap.size 0 rfl (n32 s.nats) _ HM.out.S.at_ Tryd.underlying96 rfl (info_stA s) ?_)
        | (with_reducible refine wpList_load_mid rfl 96 (.tmp 8) rfl (w.heap.size + 1 + 1 + 1 + 1) 0 rfl (n32 t64.nats) _ H4.out.at_ Tryd.underlying96 rfl (info_stA _) ?_)
        | (go_at_call 73; (with_reducible refine (plus_calls s t64 _).mono ?_); rintro e w4 ⟨rfl, e1⟩; have E4 := Lib.hid (HQ.out w4 e1); clear e1)
        | (with_reducible refine wpList_store_mid rfl 96 (.tmp 6) (.tmp 74) rfl (w.heap.size + 1 + 1) 0 (n32 (s.plus t64).nats).toArray rfl rfl E4.out.1 (info_stB _) (all_oneCell_toArray (n32_one _)) ?_))
      exact bodyPost_ret (results_arr rfl rfl E4.out.2.1) rfl ⟨rfl, E4.out.2.2⟩
end Go.Proofs.YtlmgikhgmbjfdaaDoor.Dig
/- A whole row is loaded in a region that draws its order. -/
namespace Gy
open Go

theorem still_load {P : Program} {ops : Array Oper} {w : World} {Q : Act → Prop} {o : Oper} {rest : List Oper} {a : Act} (hg : o.guard = none) (ty : TypeId) (x : Operand) (ho : o.op = .load ty x) (b : Nat) (hx : a.eval x = .pointer (some ⟨b, 0, none⟩)) (cs : List Value) (d : TypeDesc)
    (hc : w.rangeAt b 0 cs) (hu : P.underlying ty = some d) (hd : d.isRow = true) (hi : (P.info? ty).map (·.size) = some cs.length) (h : wpStill P ops w Q rest (a.put o.dst (.agg cs.toArray))) : wpStill P ops w Q (o :: rest) a := by
  refine wpStill_step fun K hK => ?_
  have hw : Region.wanted o (yielded ops a.tmps) = true := by unfold Region.wanted; rw [hg]
  rw [if_pos hw]
  unfold Oper.still
  have hr : (execOp a.eval o).run P w = .ok (.value (.agg cs.toArray)) w := by
    unfold execOp
    simp only [ho, hx, Instr.loadAt, Instr.sureAddr, Sem.run_bind, Sem.run_pure, Result.andThen_ok, run_loadVar_mid w b 0 ty cs d hc hu hd hi]
  rw [hr]
  exact ⟨rfl, hK _ h⟩
end Gy
/- The walks over package sum: SHA-256. -/
namespace Go.Proofs.YtlmgikhgmbjfdaaDoor.Dig
open Go Go.RowKit Go.Proofs.YtlmgikhgmbjfdaaDoor.QDig Go.Proofs.YtlmgikhgmbjfdaaDoorW.PrintWords Go.Proofs.YtlmgikhgmbjfdaaDoorW.PrintLast Go.Proofs.YtlmgikhgmbjfdaaDoorW.PrintMore Gy

theorem mix_at (s : St) (A : Option Addr) (L c : Nat) (b : List Int) (w : World) (hs : s.ok) (hL : L = b.length) (hR : ReadsInt w .u8 A b.length b) (hb : Bytes b) (h64 : 64 ≤ b.length) (hc : b.length ≤ c) (hl : b.length ≤ 2000000) :
    Calls Tryd.prog 52 #[.agg (n32 s.nats).toArray, .slice A L c, .agg (n32 kTab).toArray] w fun e w' => e = .returned (.agg (n32 (mixSt kTab b s).nats).toArray) ∧ Below w.heap.size w w' := by
  subst hL
  exact mix_calls s A c b w hs hR hb h64 hc hl
/-- b[64*j:] -/
theorem cut_from (A : Option Addr) (c : Nat) (b : List Int) (j : Nat) (h : 64 * j + 64 ≤ b.length) (hc : b.length ≤ c) :
    ∃ A' L c', (∀ W : World, (Instr.slice 39 (.slice A b.length c) (some (.int .i64 (64 * (j : Int)))) none none).run Tryd.prog W = .ok (.slice A' L c') W) ∧ (∀ w : World, ReadsInt w .u8 A b.length b → ReadsInt w .u8 A' (b.drop (64 * j)).length (b.drop (64 * j))) ∧ L = (b.drop (64 * j)).length ∧ (b.drop (64 * j)).length ≤ c' ∧ 64 ≤ (b.drop (64 * j)).length := by
  obtain ⟨i0, hi, hzz⟩ := Option.map_eq_some_iff.1 info_u8
  simp only [Prod.mk.injEq] at hzz
  obtain ⟨hz0, hz1, hz2⟩ := hzz
  obtain ⟨A', h1, h2, h3⟩ := print_cut_int (P := Tryd.prog) (k := .u8) 39 5 Tryd.underlying39 hi hz1 A c b (64 * (j : Int)) (by omega) (by omega) hc
  have e : (64 * (j : Int)).toNat = 64 * j := by omega
  rw [e] at h2 h3
  refine ⟨A', _, _, h1, h2, by rw [e], ?_, by rw [List.length_drop]; omega⟩
  rw [e]; exact h3
/-- so many bytes are there -/
def bPart (s : St) (m : Nat) : List Int := (bytes32 s).take m ++ List.replicate (32 - m) 0
theorem bPart_length (s : St) (m : Nat) (h : m ≤ 32) : (bPart s m).length = 32 := by
  unfold bPart; rw [List.length_append, List.length_take, bytes32_length, List.length_replicate]; omega
theorem bPart_zero (s : St) : bPart s 0 = List.replicate 32 0 := rfl
theorem bPart_all (s : St) : bPart s 32 = bytes32 s := by
  unfold bPart; rw [List.take_of_length_le (by rw [bytes32_length]; omega)]; exact List.append_nil _
theorem bPart_set (s : St) (i j : Nat) (hi : i < 8) (hj : j < 4) : (bPart s (4 * i + j)).set (4 * i + j) (((s.nats.getD i 0) / 2 ^ (24 - 8 * j) % 256 : Nat) : Int) = bPart s (4 * i + j + 1) := by
  have hl : ((bytes32 s).take (4 * i + j)).length = 4 * i + j := by rw [List.length_take, bytes32_length]; omega
  have hm : 4 * i + j < (bytes32 s).length := by rw [bytes32_length]; omega
  have hv : (bytes32 s)[4 * i + j] = (((s.nats.getD i 0) / 2 ^ (24 - 8 * j) % 256 : Nat) : Int) := by
    have e : (bytes32 s)[4 * i + j]? = some (((s.nats.getD ((4 * i + j) / 4) 0) / 2 ^ (24 - 8 * ((4 * i + j) % 4)) % 256 : Nat) : Int) := by
      unfold bytes32
      rw [List.getElem?_map, List.getElem?_range (by omega)]
      rfl
    rw [show (4 * i + j) / 4 = i from by omega, show (4 * i + j) % 4 = j from by omega, List.getElem?_eq_getElem hm] at e
    exact Option.some.inj e
  unfold bPart
  rw [List.set_append_right _ _ (by omega), hl, Nat.sub_self, List.take_succ_eq_append_getElem hm, hv, show 32 - (4 * i + j) = (32 - (4 * i + j + 1)) + 1 from by omega, List.replicate_succ, List.append_assoc]
  rfl
set_option maxRecDepth 100000 in
theorem zero_32 : ∃ zs : Array Value, zs = (nums .u8 (List.replicate 32 0)).toArray ∧ ∀ W : World, (zeroValue 36).run Tryd.prog W = .ok (.agg zs) W := by
  refine ⟨_, rfl, fun W => ?_⟩
  kernel_rfl
theorem info_32 : (Tryd.prog.info? 36).map (·.size) = some 32 := by kernel_rfl
/-- the blocks of a digest's walk, chunk by chunk -/
structure DigAt (w wr : World) (g1 g2 g3 : Nat) (all : List Int) (s : St) : Prop where
  R : Arr wr w.heap.size (nums .u8 (List.replicate 32 0))
  K : Arr wr g1 (n32 kTab)
  S : Arr wr g2 (n32 s.nats)
  A : ReadsInt wr .u8 (some ⟨g3, 0, none⟩) all.length all
  B : Below w.heap.size w wr
  o1 : w.heap.size + 1 ≤ g1
  o2 : g1 + 1 ≤ g2
  o3 : g2 + 1 ≤ g3
theorem reads_far {w : World} {g b : Nat} {xs : List Int} (h : ReadsInt w .u8 (some ⟨g, 0, none⟩) xs.length xs) (hb : b ≠ g) (o : Nat) (us : List Value) : ReadsInt (w.setCells b o us) .u8 (some ⟨g, 0, none⟩) xs.length xs := by
  refine ⟨h.1, h.2.1, fun hn => ?_⟩
  obtain ⟨ad, e, hc⟩ := h.2.2 hn
  injection e with e
  subst e
  refine ⟨_, rfl, fun j hj => ?_⟩
  have := hc j hj
  rw [Gy.addr_add] at this ⊢
  unfold World.cell? at this ⊢
  rw [setCells_block hb]
  exact this
theorem DigAt.below {w wr w' : World} {g1 g2 g3 : Nat} {all : List Int} {s : St} (h : DigAt w wr g1 g2 g3 all s) (hb : Below wr.heap.size wr w') : DigAt w w' g1 g2 g3 all s :=
  ⟨h.R.below hb, h.K.below hb, h.S.below hb, Gy.reads_below h.A hb, h.B.trans (hb.mono h.B.size), h.o1, h.o2, h.o3⟩
theorem DigAt.put {w wr : World} {g1 g2 g3 : Nat} {all : List Int} {s : St} (h : DigAt w wr g1 g2 g3 all s) (t : St) : DigAt w (wr.setCells g2 0 (n32 t.nats)) g1 g2 g3 all t := by
  have o1 := h.o1
  have o2 := h.o2
  have o3 := h.o3
  exact ⟨h.R.far_cells (by omega) _ _, h.K.far_cells (by omega) _ _, h.S.put _ (by rw [n32_length, n32_length]; rfl), reads_far h.A (by omega) _ _, setCells_below (by omega) _ _ h.B, o1, o2, o3⟩
theorem end_chunks {j n : Nat} (h : j < n) : 64 * n - (intOf (Value.int .i64 (64 * (j : Int) + 64))).toNat < 64 * n - (intOf (Value.int .i64 (64 * (j : Int)))).toNat := by
  show 64 * n - (64 * (j : Int) + 64).toNat < 64 * n - (64 * (j : Int)).toNat
  omega
theorem chunk_facts {j n : Nat} (h : j < n) (hn : 64 * n ≤ 2000000) : decide (64 * (j : Int) < ((64 * n : Nat) : Int)) = true ∧ wrap64 (64 * (j : Int) + 64) = 64 * (j : Int) + 64 ∧ 64 * (j : Int) + 64 = 64 * ((j + 1 : Nat) : Int) := by
  refine ⟨by simp; omega, by unfold wrap64; omega, by omega⟩
theorem ended_at (A : Option Addr) (c : Nat) (xs al : List Int) (w : World) (hR : ReadsInt w .u8 A xs.length xs) (hx : xs.length ≤ 1000000) (ha : al = padded xs) :
    Calls Tryd.prog 51 #[.slice A xs.length c] w fun e w' => ∃ g, e = .returned (.slice (some ⟨g, 0, none⟩) al.length al.length) ∧ w.heap.size ≤ g ∧ ReadsInt w' .u8 (some ⟨g, 0, none⟩) al.length al ∧ Below w.heap.size w w' := by
  subst ha
  rw [padded_length]
  refine (ended_calls A c xs w hR hx).mono ?_
  rintro e w' ⟨rfl, h1, h2⟩
  exact ⟨_, rfl, Nat.le_refl _, h1, h2⟩
structure DigP (w wr : World) (g1 g2 : Nat) (s : St) : Prop where
  R : Arr wr w.heap.size (nums .u8 (List.replicate 32 0))
  K : Arr wr g1 (n32 kTab)
  S : Arr wr g2 (n32 s.nats)
  B : Below w.heap.size w wr
  o1 : w.heap.size + 1 ≤ g1
  o2 : g1 + 1 ≤ g2
  o3 : g2 + 1 ≤ wr.heap.size
theorem dig_pre (w w1 w2 : World) (z32 zt zs : Array Value) (s : St) (h32 : z32 = (nums .u8 (List.replicate 32 0)).toArray) (ht : zt = (n32 (List.replicate 64 0)).toArray) (hs : zs = (n32 (List.replicate 8 0)).toArray)
    (e1 : Below (w.alloc (.cells z32 36)).heap.size (w.alloc (.cells z32 36)) w1)
    (e2 : Below ((w1.alloc (.cells zt 93)).setCells w1.heap.size 0 (n32 kTab)).heap.size ((w1.alloc (.cells zt 93)).setCells w1.heap.size 0 (n32 kTab)) w2) :
    DigP w ((w2.alloc (.cells zs 96)).setCells w2.heap.size 0 (n32 s.nats)) w1.heap.size w2.heap.size s := by
  have a0 := (Arr.fresh w _ z32 h32 36).below e1
  have s1 := e1.size
  rw [size_alloc'] at s1
  have d1 := (Arr.fresh w1 _ zt ht 93).put (n32 kTab) (by rw [n32_length, n32_length]; rfl)
  have k1 := d1.below e2
  have s2 := e2.size
  rw [setCells_size, size_alloc'] at s2
  have a1 := ((a0.alloc (.cells zt 93)).far_cells (show w1.heap.size ≠ w.heap.size by omega) 0 (n32 kTab)).below e2
  have d2 := (Arr.fresh w2 _ zs hs 96).put (n32 s.nats) (by rw [n32_length, n32_length]; rfl)
  have b1 : Below w.heap.size w w1 := (Gy.alloc_below w _).trans (e1.mono (by rw [size_alloc']; omega))
  have b2 : Below w.heap.size w w2 := (setCells_below (by omega) (n32 kTab) 0 (b1.alloc (by omega) (.cells zt 93))).trans (e2.mono (by rw [setCells_size, size_alloc']; omega))
  refine ⟨(a1.alloc _).far_cells (by omega) _ _, (k1.alloc _).far_cells (by omega) _ _, d2, setCells_below (by omega) _ _ (b2.alloc (by omega) _), by omega, by omega, by rw [setCells_size, size_alloc']; omega⟩
theorem DigP.dig {w wr w' : World} {g1 g2 g3 : Nat} {s : St} {al : List Int} (h : DigP w wr g1 g2 s) (hg : wr.heap.size ≤ g3) (hr : ReadsInt w' .u8 (some ⟨g3, 0, none⟩) al.length al) (hb : Below wr.heap.size wr w') : DigAt w w' g1 g2 g3 al s :=
  ⟨h.R.below hb, h.K.below hb, h.S.below hb, hr, h.B.trans (hb.mono h.B.size), h.o1, h.o2, by have := h.o3; omega⟩
/-- the blocks of a digest's walk, byte by byte -/
structure OutAt (w wr : World) (g : Nat) (s : St) (m : Nat) : Prop where
  R : Arr wr w.heap.size (nums .u8 (List.replicate 32 0))
  O : Arr wr g (nums .u8 (bPart s m))
  B : Below w.heap.size w wr
  o : w.heap.size + 1 ≤ g
theorem OutAt.set {w wr : World} {g : Nat} {s : St} {i j : Nat} (h : OutAt w wr g s (4 * i + j)) (hi : i < 8) (hj : j < 4) : OutAt w (wr.setCell ⟨g, 4 * i + j, none⟩ (.int .u8 (((s.nats.getD i 0) / 2 ^ (24 - 8 * j) % 256 : Nat) : Int))) g s (4 * i + j + 1) := by
  have o := h.o
  have h2 := h.O.set (i := 4 * i + j) (by rw [nums_len, bPart_length _ _ (by omega)]; omega) (.int .u8 (((s.nats.getD i 0) / 2 ^ (24 - 8 * j) % 256 : Nat) : Int))
  rw [nums_set, bPart_set s i j hi hj] at h2
  exact ⟨h.R.far (by omega) _ _, h2, h.B.setCell (show w.heap.size ≤ g by omega) _, o⟩
theorem OutAt.cell {w wr : World} {g : Nat} {s : St} {i j : Nat} (h : OutAt w wr g s (4 * i + j)) (hi : i < 8) (hj : j < 4) : ∃ v, wr.cell? ⟨g, 4 * i + j, none⟩ = some v ∧ wr.frozen? ⟨g, 4 * i + j, none⟩ = false :=
  ⟨_, h.O.cell (nums_getD (by rw [bPart_length _ _ (by omega)]; omega)), h.O.fr _⟩
theorem out_start {w wr : World} {g1 g2 g3 : Nat} {al : List Int} {s : St} (h : DigAt w wr g1 g2 g3 al s) (z32 : Array Value) (h32 : z32 = (nums .u8 (List.replicate 32 0)).toArray) (t : St) : OutAt w (wr.alloc (.cells z32 36)) wr.heap.size t 0 := by
  have hl := h.R.lt
  exact ⟨h.R.alloc _, Arr.fresh wr _ z32 (by rw [bPart_zero]; exact h32) _, h.B.alloc (by omega) _, by omega⟩
theorem index_8 (a b c d e f g h : Int) : ∀ (i : Nat), i < 8 → ∀ W : World, (Instr.index 99 (.agg #[.int .u32 a, .int .u32 b, .int .u32 c, .int .u32 d, .int .u32 e, .int .u32 f, .int .u32 g, .int .u32 h]) (.int .i64 (i : Int))).run Tryd.prog W = .ok (.int .u32 ([a, b, c, d, e, f, g, h].getD i 0)) W
  | 0, _, _ => by kernel_rfl
  | 1, _, _ => by kernel_rfl
  | 2, _, _ => by kernel_rfl
  | 3, _, _ => by kernel_rfl
  | 4, _, _ => by kernel_rfl
  | 5, _, _ => by kernel_rfl
  | 6, _, _ => by kernel_rfl
  | 7, _, _ => by kernel_rfl
  | _ + 8, h, _ => by omega
theorem nats_getD (s : St) : ∀ i, i < 8 → ([(s.a : Int), s.b, s.c, s.d, s.e, s.f, s.g, s.h] : List Int).getD i 0 = ((s.nats.getD i 0 : Nat) : Int)
  | 0, _ => rfl
  | 1, _ => rfl
  | 2, _ => rfl
  | 3, _ => rfl
  | 4, _ => rfl
  | 5, _ => rfl
  | 6, _ => rfl
  | 7, _ => rfl
  | _ + 8, h => by omega
theorem index_st (s : St) (i : Nat) (hi : i < 8) (W : World) : (Instr.index 99 (.agg #[.int .u32 (s.a : Int), .int .u32 (s.b : Int), .int .u32 (s.c : Int), .int .u32 (s.d : Int), .int .u32 (s.e : Int), .int .u32 (s.f : Int), .int .u32 (s.g : Int), .int .u32 (s.h : Int)]) (.int .i64 (i : Int))).run Tryd.prog W = .ok (.int .u32 ((s.nats.getD i 0 : Nat) : Int)) W := by
  rw [index_8 _ _ _ _ _ _ _ _ i hi W, nats_getD s i hi]
theorem end_8 {i : Nat} (h : i < 8) : 8 - (intOf (Value.int .i64 ((i : Int) + 1))).toNat < 8 - (intOf (Value.int .i64 (i : Int))).toNat := by
  show 8 - ((i : Int) + 1).toNat < 8 - ((i : Int)).toNat
  omega
theorem end_4 {i : Nat} (h : i < 4) : 4 - (intOf (Value.int .i64 ((i : Int) + 1))).toNat < 4 - (intOf (Value.int .i64 (i : Int))).toNat := by
  show 4 - ((i : Int) + 1).toNat < 4 - ((i : Int)).toNat
  omega
theorem info_32a {l : List Int} (h : l.length = 32) : (Tryd.prog.info? 36).map (·.size) = some (nums .u8 l).length := by rw [nums_len, h]; exact info_32
theorem info_32b {l : List Int} (h : l.length = 32) : (Tryd.prog.info? 36).map (·.size) = some (nums .u8 l).toArray.size := by rw [List.size_toArray]; exact info_32a h
theorem len_32 {l : List Int} (h : l.length = 32) : (nums .u8 l).length = (nums .u8 (List.replicate 32 0)).length := by rw [nums_len, nums_len, h]; rfl
theorem out_facts {i j : Nat} (hi : i < 8) (hj : j < 4) : (4 * (i : Int) + (j : Int)).toNat = 4 * i + j ∧ 4 * (i : Int) + (j : Int) < 32 ∧ 8 * (j : Int) ≤ 24 := by
  refine ⟨by omega, by omega, by omega⟩
theorem byte_val (x k : Nat) : (x : Int) / 2 ^ k % 256 = ((x / 2 ^ k % 256 : Nat) : Int) := by
  have e2 : (x : Int) / 2 ^ k = ((x / 2 ^ k : Nat) : Int) := by norm_cast
  rw [e2]
  exact (Int.natCast_emod _ 256).symm
theorem len_st (s t : St) : (n32 s.nats).length = (n32 t.nats).length := by rw [n32_length, n32_length]; rfl
theorem mixAll_step (al : List Int) (s : St) (j : Nat) : mixSt kTab (al.drop (64 * j)) (mixAll kTab al s j) = mixAll kTab al s (j + 1) := rfl
theorem zero_64j : (Value.int .i64 0 : Value) = .int .i64 (64 * ((0 : Nat) : Int)) := rfl
set_option maxHeartbeats 8000000 in
set_option maxRecDepth 100000 in
theorem digest_calls (A : Option Addr) (n c : Nat) (xs : List Int) (w : World) (hR : ReadsInt w .u8 A n xs) (hb : Bytes xs) (hx : xs.length ≤ 1000000) :
    Calls Tryd.prog 27 #[.slice A n c] w fun e w' => e = .returned (.agg (nums .u8 (sha xs)).toArray) ∧ Below w.heap.size w w' := by
  obtain rfl : xs.length = n := hR.1
  obtain ⟨al, hal⟩ : ∃ al, al = padded xs := ⟨_, rfl⟩
  obtain ⟨N, hN⟩ : ∃ N, N = padN xs.length / 64 := ⟨_, rfl⟩
  obtain ⟨fin, hfin⟩ : ∃ f, f = mixAll kTab al Gy.begun N := ⟨_, rfl⟩
  obtain ⟨bl, hbl⟩ : ∃ b, b = bytes32 fin := ⟨_, rfl⟩
  have hsha : sha xs = bl := by rw [hbl, hfin, hal, hN]; rfl
  have hlen : al.length = 64 * N := by rw [hal, padded_length, hN]; unfold padN; omega
  have hbn : 64 * N ≤ 1000072 := by rw [hN]; unfold padN; omega
  have hba : Bytes al := by rw [hal]; exact padded_bytes hb
  rw [hsha]
  have hbl2 : bl.length = 32 := by rw [hbl, bytes32_length]
  have HBL := Lib.hid (And.intro hbl hbl2)
  clear hbl hbl2
  have HL := Lib.hid (And.intro hal (And.intro hlen (And.intro hbn (And.intro hba hfin))))
  clear hal hN hfin hsha hlen hbn hba
  obtain ⟨z32, hz32, hzr⟩ := zero_32
  obtain ⟨zt, hzt, hz64⟩ := zero_64
  obtain ⟨zs, hzs, hz8⟩ := zero_st
  have HR := Lib.hid (And.intro hR (And.intro hb hx))
  have HZ := Lib.hid (And.intro hz32 (And.intro hzt hzs))
  have A0 := Lib.hid (Arr.fresh w _ z32 hz32 36)
  clear hR hb hx hz32 hzt hzs
  go_enter Tryd.func27, Tryd.ntmps27
  go_wp2_with (first
    | (go_at_call 49; (with_reducible refine (rounds_calls _).mono ?_); rintro e w1 ⟨rfl, e1⟩; have E1 := Lib.hid e1; clear e1; have D1 := Lib.hid (Arr.fresh w1 _ zt HZ.out.2.1 93))
    | (with_reducible refine wpList_store_mid rfl 93 (.tmp 3) (.tmp 11) rfl w1.heap.size 0 (n32 kTab).toArray rfl rfl (D1.out.there2 _ rfl) info_k64b (all_oneCell_toArray (n32_one kTab)) ?_)
    | (go_at_call 50; (with_reducible refine (begin_calls _).mono ?_); rintro e w2 ⟨rfl, e1⟩; have E2 := Lib.hid e1; clear e1; have D2 := Lib.hid (Arr.fresh w2 _ zs HZ.out.2.2 96))
    | (with_reducible refine wpList_store_mid rfl 96 (.tmp 4) (.tmp 12) rfl w2.heap.size 0 (n32 Gy.begun.nats).toArray rfl rfl (D2.out.there2 _ rfl) (info_stB _) (all_oneCell_toArray (n32_one _)) ?_)
    | (go_at_call 51; (with_reducible refine (ended_at A c xs al _ (Gy.reads_below HR.out.1 (dig_pre w w1 w2 z32 zt zs Gy.begun HZ.out.1 HZ.out.2.1 HZ.out.2.2 E1.out E2.out).B) HR.out.2.2 HL.out.1).mono ?_); rintro e w3 ⟨g3, rfl, e1, e2, e3⟩; have HD := Lib.hid ((dig_pre w w1 w2 z32 zt zs Gy.begun HZ.out.1 HZ.out.2.1 HZ.out.2.2 E1.out E2.out).dig e1 e2 e3); clear e1 e2 e3))
  clear A0 D1 D2 E1 E2
  generalize w1.heap.size = g1 at HD ⊢
  generalize w2.heap.size = g2 at HD ⊢
  go_loopw [6] (fun v6 wr => ∃ j : Nat, j ≤ N ∧ v6 = .int .i64 (64 * (j : Int)) ∧ Gy.Hd (DigAt w wr g1 g2 g3 al (mixAll kTab al Gy.begun j))) (fun v6 _ => 64 * N - (intOf v6).toNat)
  case atStart => exact ⟨0, Nat.zero_le _, zero_64j, ⟨HD.out⟩⟩
  case round =>
    obtain ⟨j, hj, rfl, hH⟩ := hrel
    clear HD
    by_cases hjn : j < N
    · have HJ := Lib.hid hjn
      have hend := end_chunks hjn
      obtain ⟨t1, t2, t3⟩ := chunk_facts hjn (by have := HL.out.2.2.1; omega)
      have HT3 := Lib.hid t3
      rw [← HL.out.2.1] at t1
      obtain ⟨A', L, c', m1, m2, m3, m4, m5⟩ := cut_from (some ⟨g3, 0, none⟩) al.length al j (by have := HL.out.2.1; omega) (Nat.le_refl _)
      have HM := Lib.hid (And.intro m2 (And.intro m3 (And.intro m4 m5)))
      have HOK := Lib.hid (mixAll_ok (K := kTab) (all := al) begun_ok j)
      have HST := Lib.hid (mixAll_step al Gy.begun j)
      clear m2 m3 m4 m5 t3 hj hjn
      generalize mixAll kTab al Gy.begun j = s at hH HOK HST
      go_wp2
      have M3 := Lib.hid (hH.out.below (Gy.drew_below _))
      refine wp_region_still_tail 5 (by kernel_rfl) (by kernel_rfl) ?_
      simp only [List.take_succ_cons, List.take_zero, List.drop_succ_cons, List.drop_zero]
      refine Gy.still_load rfl 96 (.tmp 4) rfl g2 rfl (n32 s.nats) _ M3.out.S.at_ Tryd.underlying96 rfl (info_stA s) ?_
      repeat still_step
      refine Gy.still_load rfl 93 (.tmp 3) rfl g1 rfl (n32 kTab) _ M3.out.K.at_ Tryd.underlying93 rfl info_k64a ?_
      refine wpStill_nil ?_
      change wpList _ _ _ _ _ wr.drew
      clear hH
      generalize wr.drew = w3 at M3 ⊢
      go_wp2_with (first
        | (go_at_call 52; (with_reducible refine (mix_at s A' L c' (al.drop (64 * j)) _ HOK.out HM.out.2.1 (HM.out.1 _ M3.out.A) (HL.out.2.2.2.1.drop _) HM.out.2.2.2 HM.out.2.2.1 (by have := HL.out.2.1; have := HL.out.2.2.1; rw [List.length_drop]; omega)).mono ?_); rw [HST.out]; rintro e w4 ⟨rfl, e1⟩; have M4 := Lib.hid (M3.out.below e1); clear e1; have M5 := Lib.hid (M4.out.S.there2 (n32 (mixAll kTab al Gy.begun (j + 1)).nats) (len_st _ _)))
        | (with_reducible refine wpList_store_mid rfl 96 (.tmp 4) (.tmp 26) rfl g2 0 (n32 (mixAll kTab al Gy.begun (j + 1)).nats).toArray rfl rfl M5.out (info_stB _) (all_oneCell_toArray (n32_one _)) ?_))
      rw [t2]
      exact ⟨⟨j + 1, HJ.out, by rw [HT3.out], ⟨M4.out.put _⟩⟩, hend⟩
    · obtain rfl : j = N := by omega
      have t1 : decide (64 * (j : Int) < (al.length : Int)) = false := by have := HL.out.2.1; simp; omega
      obtain ⟨wo, rfl⟩ : ∃ wo : World, wo = wr := ⟨_, rfl⟩
      have hH2 := hH.out
      rw [← HL.out.2.2.2.2] at hH2
      have c0 := hH2.S.cell (show (n32 fin.nats)[0]? = some (.int .u32 (fin.a : Int)) from rfl)
      have c1 := hH2.S.cell (show (n32 fin.nats)[1]? = some (.int .u32 (fin.b : Int)) from rfl)
      have c2 := hH2.S.cell (show (n32 fin.nats)[2]? = some (.int .u32 (fin.c : Int)) from rfl)
      have c3 := hH2.S.cell (show (n32 fin.nats)[3]? = some (.int .u32 (fin.d : Int)) from rfl)
      have c4 := hH2.S.cell (show (n32 fin.nats)[4]? = some (.int .u32 (fin.e : Int)) from rfl)
      have c5 := hH2.S.cell (show (n32 fin.nats)[5]? = some (.int .u32 (fin.f : Int)) from rfl)
      have c6 := hH2.S.cell (show (n32 fin.nats)[6]? = some (.int .u32 (fin.g : Int)) from rfl)
      have c7 := hH2.S.cell (show (n32 fin.nats)[7]? = some (.int .u32 (fin.h : Int)) from rfl)
      have lt2 := hH2.S.lt
      have HO := Lib.hid (out_start hH2 z32 HZ.out.1 fin)
      clear hH hH2 hj
      go_wp2
      clear c0 c1 c2 c3 c4 c5 c6 c7 lt2
      generalize wo.heap.size = g7 at HO ⊢
      go_loopw [44] (fun v44 wr => ∃ i : Nat, i ≤ 8 ∧ v44 = .int .i64 (i : Int) ∧ Gy.Hd (OutAt w wr g7 fin (4 * i))) (fun v44 _ => 8 - (intOf v44).toNat)
      case atStart => exact ⟨0, by omega, rfl, ⟨HO.out⟩⟩
      case round =>
        obtain ⟨i, hi, rfl, hH⟩ := hrel
        clear HO
        by_cases hi8 : i < 8
        · have t2 : decide ((i : Int) < 8) = true := by simp; omega
          have hidx := index_st fin i hi8
          have HI := Lib.hid hi8
          have hend := end_8 hi8
          obtain ⟨wp, rfl⟩ : ∃ wp : World, wp = wr := ⟨_, rfl⟩
          go_wp2
          go_loopw [48] (fun v48 wr => ∃ j : Nat, j ≤ 4 ∧ v48 = .int .i64 (j : Int) ∧ Gy.Hd (OutAt w wr g7 fin (4 * i + j))) (fun v48 _ => 4 - (intOf v48).toNat)
          case atStart => exact ⟨0, by omega, rfl, hH⟩
          case round =>
            obtain ⟨j, hj, rfl, hH⟩ := hrel
            by_cases hj4 : j < 4
            · have t3 : decide ((j : Int) < 4) = true := by simp; omega
              have HJ := Lib.hid hj4
              have hend4 := end_4 hj4
              obtain ⟨u0, c0, f0⟩ := hH.out.cell HI.out hj4
              obtain ⟨p1, p2, p3⟩ := out_facts HI.out hj4
              have hwj : wrap64 ((j : Int) + 1) = (j : Int) + 1 := by unfold wrap64; omega
              clear hj
              go_wp2
              refine ⟨⟨j + 1, HJ.out, by norm_cast, ⟨?_⟩⟩, hend4⟩
              rw [byte_val]
              exact hH.out.set HI.out HJ.out
            · obtain rfl : j = 4 := by omega
              have t3 : decide (((4 : Nat) : Int) < 4) = false := by decide
              have hwi : wrap64 ((i : Int) + 1) = (i : Int) + 1 := by have := HI.out; unfold wrap64; omega
              go_wp2
              exact ⟨⟨i + 1, HI.out, by norm_cast, hH⟩, hend⟩
        · obtain rfl : i = 8 := by omega
          have t2 : decide (((8 : Nat) : Int) < 8) = false := by decide
          have hq := hH.out
          rw [show 4 * 8 = 32 from rfl] at hq
          have HO32 := hq.O
          rw [bPart_all, ← HBL.out.1] at HO32
          have HM := Lib.hid HO32
          have HB := Lib.hid (And.intro (hq.R.there2 (nums .u8 (bl)) (len_32 HBL.out.2)) (And.intro ((hq.R.put (nums .u8 (bl)) (len_32 HBL.out.2)).loadV (P := Tryd.prog) Tryd.underlying36 rfl (info_32a HBL.out.2)) (setCells_below (Nat.le_refl _) (nums .u8 (bl)) 0 hq.B)))
          clear hH hq HO32
          go_wp2_with (first
            | (with_reducible refine wpList_load_mid rfl 36 (.tmp 7) rfl g7 0 rfl (nums .u8 (bl)) _ HM.out.at_ Tryd.underlying36 rfl (info_32a HBL.out.2) ?_)
            | (with_reducible refine wpList_store_mid rfl 36 (.tmp 2) (.tmp 64) rfl w.heap.size 0 (nums .u8 (bl)).toArray rfl rfl HB.out.1 (info_32b HBL.out.2) (all_oneCell_toArray (nums_one _ _)) ?_))
          exact bodyPost_ret (results_arr rfl rfl HB.out.2.1) rfl ⟨rfl, HB.out.2.2⟩
end Go.Proofs.YtlmgikhgmbjfdaaDoor.Dig
/- Package cut, the walk in pieces: the inner loop of Make: one slice after the other. -/
namespace Go.Proofs.YtlmgikhgmbjfdaaDoor.Cuts
open Go Go.RowKit Go.Proofs.YtlmgikhgmbjfdaaDoorW.PrintWords Go.Proofs.YtlmgikhgmbjfdaaDoorW.PrintLast Go.Proofs.YtlmgikhgmbjfdaaDoorW.PrintMore Gy

/-- the loops of a text, each ahead of those within it -/
def loopsOf : Code → List Code
  | .loop c => c :: loopsOf c
  | .seq a b => loopsOf a ++ loopsOf b
  | .block _ c => loopsOf c
  | .scope c => loopsOf c
  | .cond _ a b => loopsOf a ++ loopsOf b
  | _ => []
noncomputable def bodyOf (k : Nat) : Code := ((Tryd.f8.body.map loopsOf).getD []).getD k .skip
abbrev frI (w : World) (L0 : Value) (s SB xb n i : Nat) (rv R : Value) : List (Nat × Value) :=
  [(0, L0), (1, .int .i64 (s : Int)), (4, .pointer (some ⟨w.heap.size, 0, none⟩)), (8, .pointer (some ⟨SB, 0, none⟩)), (9, rv), (11, .pointer (some ⟨xb, 0, none⟩)), (12, R), (23, L0), (24, .int .i64 (n : Int)), (25, .int .i64 (i : Int))]
theorem own_some1 {w : World} {base : Nat} {e : TypeId} {n : Nat} {v : Value} {xs : List Value} (h : w.ownsRow base e 1 v n xs) (hn : 0 < n) : ∃ g c, v = .slice (some ⟨g, 0, none⟩) n c ∧ n ≤ c ∧ base ≤ g ∧ g < w.heap.size := by
  rcases h.2 with ⟨_, h0⟩ | ⟨g, cap, cur, hv, hb, hg, hc, _⟩
  · omega
  · exact ⟨g, cap, hv, hc, hb, (Array.getElem?_eq_some_iff.1 hg).1⟩
theorem info8 : ∃ i, Tryd.prog.info? 5 = some i ∧ i.size = 1 := by
  obtain ⟨i0, hi, hzz⟩ := Option.map_eq_some_iff.1 info_u8
  simp only [Prod.mk.injEq] at hzz
  exact ⟨i0, hi, hzz.2.1⟩
/-- so many of a row's first bytes, and the others -/
theorem cut_at (A : Option Addr) (c : Nat) (rest : List Int) (m : Nat) (hm : m ≤ rest.length) (hc : rest.length ≤ c) :
    (∀ W : World, (Instr.slice 39 (.slice A rest.length c) none (some (.int .i64 (m : Int))) none).run Tryd.prog W = .ok (.slice A m c) W) ∧ (∀ w : World, ReadsInt w .u8 A rest.length rest → ReadsInt w .u8 A m (rest.take m)) ∧
    ∃ A' : Option Addr, (∀ W : World, (Instr.slice 39 (.slice A rest.length c) (some (.int .i64 (m : Int))) none none).run Tryd.prog W = .ok (.slice A' (rest.drop m).length (c - m)) W) ∧ (∀ w : World, ReadsInt w .u8 A rest.length rest → ReadsInt w .u8 A' (rest.drop m).length (rest.drop m)) ∧ (rest.drop m).length ≤ c - m := by
  obtain ⟨i, hi, hs⟩ := info8
  obtain ⟨h1, h2, -⟩ := print_take_of (P := Tryd.prog) (Value.int .u8) (0 : Int) 39 5 .i64 Tryd.underlying39 hi hs A c rest (m : Int) (by omega) (by omega) hc
  obtain ⟨A', g1, g2, g3⟩ := print_drop_of (P := Tryd.prog) (Value.int .u8) (0 : Int) 39 5 .i64 Tryd.underlying39 hi hs A c rest (m : Int) (by omega) (by omega) hc
  have e : (rest.take m).length = m := by rw [List.length_take]; omega
  rw [Int.toNat_natCast] at h1 h2 g1 g2 g3
  rw [e] at h1 h2
  exact ⟨h1, h2, A', g1, g2, g3⟩
/-- a clone's block gets its role -/
theorem clone_state {w wr w2 : World} {ρ0 : Nat → Nat} {SB xb n : Nat} {cs : List Value} {fv lv rv v : Value} {ks xs ys : List Value} {st : Cut} {e : TypeId} (hM : Mk w wr ρ0 SB cs fv lv rv ks st) (hX : RArr wr ρ0 6 xb xs) (ho : w2.ownsRow wr.heap.size e 1 v n ys) (hn : 0 < n) (hd : Below wr.heap.size wr w2) :
    ∃ g1 cap1 ρ1, v = .slice (some ⟨g1, 0, none⟩) n cap1 ∧ n ≤ cap1 ∧ Mk w w2 ρ1 SB cs fv lv rv ks st ∧ RArr w2 ρ1 6 xb xs ∧ Gy.Rows w2 ρ1 w.heap.size 5 e 1 v n ys := by
  have hs := hM.size
  obtain ⟨g1, cap1, rfl, hc, hb, hg⟩ := own_some1 ho hn
  have t : ∀ R, Turn wr w2 ρ0 (asRole ρ0 g1 5) R := fun R => ⟨hd.size, fun k hk _ => hd.block k hk, fun k hk => asRole_ne 5 (by omega)⟩
  refine ⟨g1, cap1, asRole ρ0 g1 5, rfl, hc, hM.turn (t 6) (by omega) (hM.bel.trans (hd.mono hM.bel.size)), hX.turn (t 7) (by omega), ⟨⟨ho.1, ?_⟩, fun k hk => ?_⟩⟩
  · rcases ho.2 with h | ⟨g, cap, cur, h1, h2, h3⟩
    · exact .inl h
    · exact .inr ⟨g, cap, cur, h1, Nat.le_trans hs h2, h3⟩
  · injection hk with hk
    rw [← hk]
    exact asRole_at _ _ _
set_option maxHeartbeats 4000000 in
set_option maxRecDepth 100000 in
theorem i_step {u2 u3 u5 u6 u7 u10 u13 u14 u15 u16 u17 u18 u19 u20 u21 u22 u26 u27 u28 u29 u30 u31 u32 u33 u34 u35 u36 u37 u38 u39 u40 u41 u42 u43 u44 u45 u46 u47 u48 u49 u50 u51 u52 u53 u54 u55 u56 u57 u58 u59 u60 u61 u62 u63 u64 u65 u66 u67 u68 u69 u70 u71 u72 u73 u74 u75 u76 u77 u78 u79 u80 u81 : Value} {w wr : World} {ρ0 : Nat → Nat} {SB xb n i : Nat} {fv lv rv0 L0 : Value} {ks0 xs : List Value} {st0 : Cut} {s : Nat} {rest : List Int} {A : Option Addr} {c : Nat} (Q : Exit → Act → World → Prop) (hs1 : 1 ≤ s) (hs2 : s ≤ 256) (hb : Bytes rest) (hr : 0 < rest.length) (hl : rest.length ≤ 100000) (hc : rest.length ≤ c) (hR : ReadsInt w .u8 A rest.length rest)
    (hM : Mk w wr ρ0 SB [.int .i64 (s : Int), fv, lv] fv lv rv0 ks0 st0) (hX : RArr wr ρ0 6 xb xs) (hf : st0.src.length ≤ 80000) (hf2 : st0.slices.length ≤ 80000)
    (hQ : ∀ a' w' ρ' lv' rv' ks' A' c', Fr 82 (frI w L0 s SB xb n i rv' (.slice A' (rest.drop s).length c')) a' → (rest.drop s).length ≤ c' → ReadsInt w .u8 A' (rest.drop s).length (rest.drop s) → Mk w w' ρ' SB [.int .i64 (s : Int), fv, lv'] fv lv' rv' ks' (st0.addC (rest.take s)) → RArr w' ρ' 6 xb xs → Q .normal a' w') :
    Code.wp Tryd.prog (bodyOf 1) Q ⟨#[L0, .int .i64 (s : Int), u2, u3, .pointer (some ⟨w.heap.size, 0, none⟩), u5, u6, u7, .pointer (some ⟨SB, 0, none⟩), rv0, u10, .pointer (some ⟨xb, 0, none⟩), .slice A rest.length c, u13, u14, u15, u16, u17, u18, u19, u20, u21, u22, L0, .int .i64 (n : Int), .int .i64 (i : Int), u26, u27, u28, u29, u30, u31, u32, u33, u34, u35, u36, u37, u38, u39, u40, u41, u42, u43, u44, u45, u46, u47, u48, u49, u50, u51, u52, u53, u54, u55, u56, u57, u58, u59, u60, u61, u62, u63, u64, u65, u66, u67, u68, u69, u70, u71, u72, u73, u74, u75, u76, u77, u78, u79, u80, u81], []⟩ wr := by
  conv => arg 2; whnf
  have HQ := Lib.hid hQ
  have t49 : decide ((0 : Int) < (rest.length : Int)) = true := decide_eq_true (by omega)
  have b49 : 0 < rest.length := hr
  obtain ⟨m, hm⟩ : ∃ m, m = min s rest.length := ⟨_, rfl⟩
  have hm1 : 1 ≤ m := by omega
  have hm2 : m ≤ rest.length := by omega
  obtain ⟨row, hrow⟩ : ∃ row, row = rest.take m := ⟨_, rfl⟩
  have hrs : rest.take s = row := by
    rw [hrow, hm]
    rcases Nat.le_total s rest.length with h | h
    · rw [Nat.min_eq_left h]
    · rw [Nat.min_eq_right h, List.take_of_length_le h, List.take_of_length_le (Nat.le_refl _)]
  have hds : rest.drop s = rest.drop m := by
    rw [hm]
    rcases Nat.le_total s rest.length with h | h
    · rw [Nat.min_eq_left h]
    · rw [Nat.min_eq_right h, List.drop_of_length_le h, List.drop_of_length_le (Nat.le_refl _)]
  have hrl : row.length = m := by rw [hrow, List.length_take]; omega
  obtain ⟨k1, k2, A2, d1, d2, d3⟩ := cut_at A c rest m hm2 hc
  have HRow := Lib.hid (k2 w hR)
  have HDr := Lib.hid (And.intro (d2 w hR) d3)
  have HX := Lib.hid (show Bytes row by rw [hrow]; exact hb.take m)
  rw [← hrow] at HRow
  have HL := Lib.hid (show row.length ≤ 1000000 by omega)
  have hmin : (if (rest.length : Int) < (s : Int) then (rest.length : Int) else (s : Int)) = (m : Int) := by split <;> omega
  have hmin3 : min (s : Int) (rest.length : Int) = (m : Int) := by omega
  have hmin2 : (if rest.length < s then (rest.length : Int) else (s : Int)) = (m : Int) := by split <;> omega
  have HRL := Lib.hid hrl
  rw [hrs, hds] at HQ
  have HM0 := Lib.hid hM
  have HX0 := Lib.hid hX
  have HF0 := Lib.hid hf
  have HF := Lib.hid (show st0.slices.length ≤ 90000 by omega)
  clear k2 d2 d3 hrow hrl hrs hds hQ hR hM hX hf hf2 hb hc hm hr
  have HE := Lib.hid (show 0 < row.length by have := HRL.out; omega)
  have HF1 := Lib.hid (show st0.src.length ≤ 90000 from Nat.le_trans HF0.out (by decide))
  obtain ⟨st, hst⟩ : ∃ st : Cut, st = ⟨st0.files, st0.slices, st0.src ++ [row]⟩ := ⟨_, rfl⟩
  have HST := Lib.hid hst
  clear hst
  go_wp2_with (first
    | (go_at_call 28; (with_reducible refine (clone_calls A m c row wr (Gy.reads_below HRow.out HM0.out.bel) (Nat.le_trans HL.out (by decide))).mono ?_); rintro e w2 ⟨v2, rfl, ho2, hd2⟩; obtain ⟨g1, cap1, ρ1, rfl, hc1, hM1, hX1, hK1⟩ := clone_state HM0.out HX0.out ho2 HE.out hd2; have HC := Lib.hid hc1; have HM1 := Lib.hid hM1; have HX1 := Lib.hid hX1; have HK1 := Lib.hid hK1; clear hc1 hM1 hX1 hK1 ho2 hd2)
    | (at_builtin; obtain ⟨rv, wv, hr3, ⟨ρ, hM3, hX3, hK3⟩, -⟩ := Mk.addSrc (HM1.out.below (Gy.alloc_below _ (.cells #[.slice (some ⟨g1, 0, none⟩) row.length cap1] 39))) (HX1.out.below (Gy.alloc_below _ _)) (HK1.out.below (Gy.alloc_below _ _)) rfl (Gy.alloc_at _ _) HF1.out 29; refine wpList_value rfl (exec_append (t := 29) rfl rfl rfl hr3) ?_; rw [← HST.out] at hM3; obtain ⟨ks, hks⟩ : ∃ ks, ks0 ++ [.slice (some ⟨g1, 0, none⟩) row.length cap1] = ks := ⟨_, rfl⟩; rw [hks] at hM3; have HM := Lib.hid hM3; have HXB := Lib.hid hX3; have HR := Lib.hid (Gy.own_reads hK3.own rfl (Nat.le_trans HL.out (by decide))); clear hr3 hM3 hX3 hK3 hks HM1 HX1 HK1))
  replace HF : Hid (st.slices.length ≤ 90000) := Lib.hid (by rw [HST.out]; exact HF.out)
  refine Gy.FlowV.flow (by kernel_rfl) (fun i_ => List.getD [(fun v _ => v = .pointer (some ⟨SB, 2, none⟩)), (fun v _ => v = lv), (fun v _ => v = .slice (some ⟨g1, 0, none⟩) row.length cap1), (fun v _ => v = .int .i64 (row.length : Int)), (fun v _ => v = .slice (some ⟨g1, 0, none⟩) row.length cap1), (fun v _ => v = .int .u32 ((Gy.crc row : Nat) : Int)), (fun v _ => v = .slice (some ⟨g1, 0, none⟩) row.length cap1), (fun v _ => v = .agg (nums .u8 (sha row)).toArray), (fun v _ => v = .agg (sliceL (row.length : Int) ((Gy.crc row : Nat) : Int) (sha row)).toArray), (fun v w => ∃ g, v = .slice (some ⟨g, 0, none⟩) 1 1 ∧ wv.heap.size ≤ g ∧ w.heap[g]? = some (.cells (sliceL (row.length : Int) ((Gy.crc row : Nat) : Int) (sha row)).toArray 38 (0, 0))), (fun _ _ => True), (fun v _ => v = .pointer (some ⟨SB, 2, none⟩)), (fun _ _ => True)] i_ (fun _ _ => True)) (Gy.FlowV.AppJ 10 12 (fun w5 => Below wv.heap.size wv w5) (fun v w5 => ∃ ρ', Mk w w5 ρ' SB [.int .i64 (s : Int), fv, lv] fv v rv ks ⟨st.files, st.slices ++ [sliceOf row], st.src⟩ ∧ RArr w5 ρ' 6 xb xs) (fun v w5 => ∃ ρ', Mk w w5 ρ' SB [.int .i64 (s : Int), fv, v] fv v rv ks ⟨st.files, st.slices ++ [sliceOf row], st.src⟩ ∧ RArr w5 ρ' 6 xb xs)) (fun w w' => w.heap.size ≤ w'.heap.size ∧ ∀ k, wv.heap.size ≤ k → k < w.heap.size → w'.heap[k]? = w.heap[k]?) (by kernel_rfl) (fun f => .start (Gy.drew_below _)) (Gy.FlowL.mono_list [(fun v _ => v = .pointer (some ⟨SB, 2, none⟩)), (fun v _ => v = lv), (fun v _ => v = .slice (some ⟨g1, 0, none⟩) row.length cap1), (fun v _ => v = .int .i64 (row.length : Int)), (fun v _ => v = .slice (some ⟨g1, 0, none⟩) row.length cap1), (fun v _ => v = .int .u32 ((Gy.crc row : Nat) : Int)), (fun v _ => v = .slice (some ⟨g1, 0, none⟩) row.length cap1), (fun v _ => v = .agg (nums .u8 (sha row)).toArray), (fun v _ => v = .agg (sliceL (row.length : Int) ((Gy.crc row : Nat) : Int) (sha row)).toArray), (fun v w => ∃ g, v = .slice (some ⟨g, 0, none⟩) 1 1 ∧ wv.heap.size ≤ g ∧ w.heap[g]? = some (.cells (sliceL (row.length : Int) ((Gy.crc row : Nat) : Int) (sha row)).toArray 38 (0, 0))), (fun _ _ => True), (fun v _ => v = .pointer (some ⟨SB, 2, none⟩)), (fun _ _ => True)] ?_) (Gy.FlowL.of_allFrom ⟨?_, ?_, ?_, ?_, ?_, ?_, ?_, ?_, ?_, ?_, ?_, ?_, ?_, trivial⟩) ?_
  · exact ⟨fun v w w' h hb => h, fun v w w' h hb => h, fun v w w' h hb => h, fun v w w' h hb => h, fun v w w' h hb => h, fun v w w' h hb => h, fun v w w' h hb => h, fun v w w' h hb => h, fun v w w' h hb => h, fun v w w' ⟨g, e, h1, h2⟩ hb => ⟨g, e, h1, (hb.2 g h1 (Array.getElem?_eq_some_iff.1 h2).1).trans h2⟩, fun v w w' h hb => h, fun v w w' h hb => h, fun v w w' h hb => h, trivial⟩
  · intro L a w5 hD
    have e8 : a.eval (.tmp 8) = .pointer (some ⟨SB, 0, none⟩) := hD.same.at_other 8 (by kernel_rfl)
    have f8 := e8; simp only [Act.eval, Array.getD_eq_getD_getElem?] at f8
    refine Gy.FlowV.step_value rfl (Gy.FlowL.wanted_none rfl) (v := .pointer (some ⟨SB, 2, none⟩)) (w1 := w5) ?_ rfl (hD.J.keep 0 _ (by decide) (by decide)) ⟨Nat.le_refl _, fun _ _ _ => rfl⟩
    first | (simp only [execOp]; go_simp; done) | (simp only [execOp, e8]; go_simp)
  · intro L a w5 hD
    have e67 : a.eval (.tmp 67) = .pointer (some ⟨SB, 2, none⟩) := hD.at 0 (by kernel_rfl)
    have n10 := hD.later 10 (by kernel_rfl)
    have hB := hD.J.early n10
    have hcell : w5.cell? ⟨SB, 2, none⟩ = some lv := (HM.out.below hB).s.arr.cell rfl
    have f67 := e67; simp only [Act.eval, Array.getD_eq_getD_getElem?] at f67
    refine Gy.FlowV.step_value rfl (Gy.FlowL.wanted_none rfl) (v := lv) (w1 := w5) ?_ rfl (hD.J.keep 1 _ (by decide) (by decide)) ⟨Nat.le_refl _, fun _ _ _ => rfl⟩
    first | (simp only [execOp]; go_simp; done) | (simp only [execOp, e67]; go_simp)
  · intro L a w5 hD
    have e13 : a.eval (.tmp 13) = .slice (some ⟨g1, 0, none⟩) row.length cap1 := hD.same.at_other 13 (by kernel_rfl)
    exact Gy.FlowV.step_move rfl rfl (Gy.FlowL.wanted_none rfl) e13 (hD.J.keep 2 _ (by decide) (by decide)) ⟨Nat.le_refl _, fun _ _ _ => rfl⟩
  · intro L a w5 hD
    have e69 : a.eval (.tmp 69) = .slice (some ⟨g1, 0, none⟩) row.length cap1 := hD.at 2 (by kernel_rfl)
    have f69 := e69; simp only [Act.eval, Array.getD_eq_getD_getElem?] at f69
    refine Gy.FlowV.step_value rfl (Gy.FlowL.wanted_none rfl) (v := .int .i64 (row.length : Int)) (w1 := w5) ?_ rfl (hD.J.keep 3 _ (by decide) (by decide)) ⟨Nat.le_refl _, fun _ _ _ => rfl⟩
    first | (simp only [execOp]; go_simp; done) | (simp only [execOp, e69]; go_simp)
  · intro L a w5 hD
    have e13 : a.eval (.tmp 13) = .slice (some ⟨g1, 0, none⟩) row.length cap1 := hD.same.at_other 13 (by kernel_rfl)
    exact Gy.FlowV.step_move rfl rfl (Gy.FlowL.wanted_none rfl) e13 (hD.J.keep 4 _ (by decide) (by decide)) ⟨Nat.le_refl _, fun _ _ _ => rfl⟩
  · intro L a w5 hD
    have e71 : a.eval (.tmp 71) = .slice (some ⟨g1, 0, none⟩) row.length cap1 := hD.at 4 (by kernel_rfl)
    have n8 := hD.later 8 (by kernel_rfl)
    have n9 := hD.not_yet n8 9 (by kernel_rfl)
    have n10 := hD.not_yet n9 10 (by kernel_rfl)
    have hs0 := hD.not_yet n10 12 (by kernel_rfl)
    have hB := hD.J.early n10
    refine Gy.FlowV.step_call rfl (args := #[.slice (some ⟨g1, 0, none⟩) row.length cap1]) (Gy.FlowL.wanted_none rfl) Tryd.func29 (by kernel_rfl) (by kernel_rfl) rfl (by simp only [List.map_toArray, List.map_cons, List.map_nil, e71]) ?_
    exact (Go.Proofs.YtlmgikhgmbjfdaaDoor.Pure.crc_calls _ cap1 row w5 (Gy.reads_below HR.out hB) HC.out HX.out HL.out).mono fun e w6 h => ⟨_, h.1, rfl, (Gy.FlowV.AppJ.go n10 hs0 (hB.trans (h.2.mono hB.size)) 5 _ (by decide) (by decide)), h.2.size, fun k _ hk => h.2.block k hk⟩
  · intro L a w5 hD
    have e13 : a.eval (.tmp 13) = .slice (some ⟨g1, 0, none⟩) row.length cap1 := hD.same.at_other 13 (by kernel_rfl)
    exact Gy.FlowV.step_move rfl rfl (Gy.FlowL.wanted_none rfl) e13 (hD.J.keep 6 _ (by decide) (by decide)) ⟨Nat.le_refl _, fun _ _ _ => rfl⟩
  · intro L a w5 hD
    have e73 : a.eval (.tmp 73) = .slice (some ⟨g1, 0, none⟩) row.length cap1 := hD.at 6 (by kernel_rfl)
    have n8 := hD.later 8 (by kernel_rfl)
    have n9 := hD.not_yet n8 9 (by kernel_rfl)
    have n10 := hD.not_yet n9 10 (by kernel_rfl)
    have hs0 := hD.not_yet n10 12 (by kernel_rfl)
    have hB := hD.J.early n10
    refine Gy.FlowV.step_call rfl (args := #[.slice (some ⟨g1, 0, none⟩) row.length cap1]) (Gy.FlowL.wanted_none rfl) Tryd.func27 (by kernel_rfl) (by kernel_rfl) rfl (by simp only [List.map_toArray, List.map_cons, List.map_nil, e73]) ?_
    exact (Go.Proofs.YtlmgikhgmbjfdaaDoor.Dig.digest_calls _ _ cap1 row w5 (Gy.reads_below HR.out hB) HX.out HL.out).mono fun e w6 h => ⟨_, h.1, rfl, (Gy.FlowV.AppJ.go n10 hs0 (hB.trans (h.2.mono hB.size)) 7 _ (by decide) (by decide)), h.2.size, fun k _ hk => h.2.block k hk⟩
  · intro L a w5 hD
    have e70 : a.eval (.tmp 70) = .int .i64 (row.length : Int) := hD.at 3 (by kernel_rfl)
    have e72 : a.eval (.tmp 72) = .int .u32 ((Gy.crc row : Nat) : Int) := hD.at 5 (by kernel_rfl)
    have e74 : a.eval (.tmp 74) = .agg (nums .u8 (sha row)).toArray := hD.at 7 (by kernel_rfl)
    refine Gy.FlowV.step_value rfl (Gy.FlowL.wanted_none rfl) (v := .agg (sliceL (row.length : Int) ((Gy.crc row : Nat) : Int) (sha row)).toArray) (w1 := w5) ?_ rfl (hD.J.keep 8 _ (by decide) (by decide)) ⟨Nat.le_refl _, fun _ _ _ => rfl⟩
    have hb := build_slice (row.length : Int) ((Gy.crc row : Nat) : Int) (sha row) (Gy.sha_length _) w5
    simp only [execOp, List.map_toArray, List.map_cons, List.map_nil, e70, e72, e74, Sem.run_bind, hb, Result.andThen_ok]
    rfl
  · intro L a w5 hD
    have e75 : a.eval (.tmp 75) = .agg (sliceL (row.length : Int) ((Gy.crc row : Nat) : Int) (sha row)).toArray := hD.at 8 (by kernel_rfl)
    have n10 := hD.later 10 (by kernel_rfl)
    have hs0 := hD.not_yet n10 12 (by kernel_rfl)
    have hB := hD.J.early n10
    have hb := lay_slice (row.length : Int) ((Gy.crc row : Nat) : Int) (sha row) (Gy.sha_length _) w5
    refine Gy.FlowV.step_value rfl (Gy.FlowL.wanted_none rfl) (v := .slice (some ⟨w5.heap.size, 0, none⟩) 1 1) (w1 := w5.alloc (.cells (sliceL (row.length : Int) ((Gy.crc row : Nat) : Int) (sha row)).toArray 38)) ?_ ⟨_, rfl, hB.size, Gy.alloc_at _ _⟩ (Gy.FlowV.AppJ.go n10 hs0 (hB.alloc hB.size _) 9 _ (by decide) (by decide)) ⟨(Gy.alloc_below _ _).size, fun k _ hk => (Gy.alloc_below _ _).block k hk⟩
    simp only [execOp, List.map_toArray, List.map_cons, List.map_nil, e75, Sem.run_bind, hb, Result.andThen_ok]
    rfl
  · intro L a w5 hD
    have e68 : a.eval (.tmp 68) = lv := hD.at 1 (by kernel_rfl)
    have q76 : (fun v w => ∃ g, v = .slice (some ⟨g, 0, none⟩) 1 1 ∧ wv.heap.size ≤ g ∧ w.heap[g]? = some (.cells (sliceL (row.length : Int) ((Gy.crc row : Nat) : Int) (sha row)).toArray 38 (0, 0))) (a.eval (.tmp 76)) w5 := hD.at 9 (by kernel_rfl)
    obtain ⟨g76, e76, h76, c76⟩ := q76
    have hB := hD.J.early hD.not
    obtain ⟨v6, w6, hr, hM6, hgr⟩ := (HM.out.below hB).addSlice (HXB.out.below hB) (sliceOf row) (Gy.sha_length _) c76 HF.out 26
    refine Gy.FlowV.step_value rfl (Gy.FlowL.wanted_none rfl) (v := v6) (w1 := w6) (exec_append rfl e68 e76 hr) trivial (Gy.FlowV.AppJ.app (by decide) (hD.later 12 (by kernel_rfl)) hM6) ⟨hgr.size, fun k h1 h2 => hgr.block k h2 fun hk => ?_⟩
    have := (HM.out.l.own.lt k hk.symm).2
    omega
  · intro L a w5 hD
    have e8 : a.eval (.tmp 8) = .pointer (some ⟨SB, 0, none⟩) := hD.same.at_other 8 (by kernel_rfl)
    have f8 := e8; simp only [Act.eval, Array.getD_eq_getD_getElem?] at f8
    refine Gy.FlowV.step_value rfl (Gy.FlowL.wanted_none rfl) (v := .pointer (some ⟨SB, 2, none⟩)) (w1 := w5) ?_ rfl (hD.J.keep 11 _ (by decide) (by decide)) ⟨Nat.le_refl _, fun _ _ _ => rfl⟩
    first | (simp only [execOp]; go_simp; done) | (simp only [execOp, e8]; go_simp)
  · intro L a w5 hD
    have e78 : a.eval (.tmp 78) = .pointer (some ⟨SB, 2, none⟩) := hD.at 11 (by kernel_rfl)
    have hL := hD.waits 10 (by kernel_rfl)
    obtain ⟨ρ6, hM6, hX6⟩ := hD.J.2.1 hL hD.not
    obtain ⟨g7, cap7, e7, -, -⟩ := hM6.l.own.form (by simp)
    have e77 : a.eval (.tmp 77) = .slice (some ⟨g7, 0, none⟩) (st.slices ++ [sliceOf row]).length cap7 := e7
    have c77 : w5.cell? ⟨SB, 2, none⟩ = some lv := hM6.s.arr.cell rfl
    have z77 := hM6.s.arr.fr 2
    have f77 := e77; simp only [Act.eval, Array.getD_eq_getD_getElem?] at f77
    have f78 := e78; simp only [Act.eval, Array.getD_eq_getD_getElem?] at f78
    have hE := Gy.FlowV.AppJ.store (ia := 10) (is := 12) (B := fun w5 => Below wv.heap.size wv w5) (M := fun v w5 => ∃ ρ', Mk w w5 ρ' SB [.int .i64 (s : Int), fv, lv] fv v rv ks ⟨st.files, st.slices ++ [sliceOf row], st.src⟩ ∧ RArr w5 ρ' 6 xb xs) (E := fun v w5 => ∃ ρ', Mk w w5 ρ' SB [.int .i64 (s : Int), fv, v] fv v rv ks ⟨st.files, st.slices ++ [sliceOf row], st.src⟩ ∧ RArr w5 ρ' 6 xb xs) (v := undef) (L := L) (f := Gy.FlowL.At _ a) (by decide) hL ⟨ρ6, hM6.put (i := 2) (by simp) _, hX6.turn (.set 2 _ hM6.s.role) (by omega)⟩
    refine Gy.FlowV.step_skip (w1 := w5.setCell ⟨SB, 2, none⟩ (.slice (some ⟨g7, 0, none⟩) (st.slices ++ [sliceOf row]).length cap7)) rfl (Gy.FlowL.wanted_none rfl) ?_ trivial (by rw [e7] at hE; exact hE) ⟨by rw [Gy.set_size]; exact Nat.le_refl _, fun k h1 _ => Below.heap_setCell w5 _ _ k (fun hk => ?_)⟩
    · first | (simp only [execOp]; go_simp; done) | (simp only [execOp, e78, e77]; go_simp)
    · have h3 : k = SB := hk
      have := HM.out.s.arr.lt
      omega
  · intro L a w5 hs hJ hL hv
    obtain ⟨ρ7, hM7, hX7⟩ := hJ.2.2 (hL 12 (by decide))
    have hp := Gy.FlowL.same_puts (by kernel_rfl) hs
    generalize Gy.FlowL.At _ a = vs at hp hM7
    clear hv hs hJ hL
    subst hp
    simp only [Gy.FlowL.puts, Act.put, List.setIfInBounds_toArray, List.set_cons_zero, List.set_cons_succ]
    have HM7 := Lib.hid (show Mk w w5 ρ7 SB [.int .i64 (s : Int), fv, vs 10] fv (vs 10) rv ks (st0.addC row) by rw [HST.out] at hM7; exact hM7)
    have HX7 := Lib.hid hX7
    clear hM7 hX7
    go_wp2
    exact HQ.out _ _ ρ7 _ rv ks A2 (c - m) ⟨rfl, rfl, rfl, rfl, rfl, rfl, rfl, rfl, by rw [List.length_drop]; rfl, rfl, rfl, rfl, trivial⟩ HDr.out.2 HDr.out.1 HM7.out HX7.out
set_option maxHeartbeats 2000000 in
set_option maxRecDepth 100000 in
theorem i_last {u2 u3 u5 u6 u7 u10 u13 u14 u15 u16 u17 u18 u19 u20 u21 u22 u26 u27 u28 u29 u30 u31 u32 u33 u34 u35 u36 u37 u38 u39 u40 u41 u42 u43 u44 u45 u46 u47 u48 u49 u50 u51 u52 u53 u54 u55 u56 u57 u58 u59 u60 u61 u62 u63 u64 u65 u66 u67 u68 u69 u70 u71 u72 u73 u74 u75 u76 u77 u78 u79 u80 u81 : Value} {w wr : World} {SB xb n i : Nat} {rv L0 : Value} {s : Nat} {A : Option Addr} {c : Nat} (Q : Exit → Act → World → Prop)
    (hQ : ∀ a', Fr 82 (frI w L0 s SB xb n i rv (.slice A 0 c)) a' → Q (.exit 2) a' wr) :
    Code.wp Tryd.prog (bodyOf 1) Q ⟨#[L0, .int .i64 (s : Int), u2, u3, .pointer (some ⟨w.heap.size, 0, none⟩), u5, u6, u7, .pointer (some ⟨SB, 0, none⟩), rv, u10, .pointer (some ⟨xb, 0, none⟩), .slice A 0 c, u13, u14, u15, u16, u17, u18, u19, u20, u21, u22, L0, .int .i64 (n : Int), .int .i64 (i : Int), u26, u27, u28, u29, u30, u31, u32, u33, u34, u35, u36, u37, u38, u39, u40, u41, u42, u43, u44, u45, u46, u47, u48, u49, u50, u51, u52, u53, u54, u55, u56, u57, u58, u59, u60, u61, u62, u63, u64, u65, u66, u67, u68, u69, u70, u71, u72, u73, u74, u75, u76, u77, u78, u79, u80, u81], []⟩ wr := by
  conv => arg 2; whnf
  have HQ := Lib.hid hQ
  clear hQ
  go_wp2
  exact HQ.out _ ⟨rfl, rfl, rfl, rfl, rfl, rfl, rfl, rfl, rfl, rfl, rfl, rfl, trivial⟩
def lenOf : Value → Nat
  | .slice _ n _ => n
  | _ => 0
set_option maxHeartbeats 1000000 in
set_option maxRecDepth 100000 in
/-- all slices of a file -/
theorem i_loop {w wr : World} {ρ : Nat → Nat} {SB xb n i : Nat} {fv lv rv L0 : Value} {ks xs : List Value} {st : Cut} {s : Nat} {b : List Int} {A : Option Addr} {c : Nat} {a : Act} (Q : Exit → Act → World → Prop) (hs1 : 1 ≤ s) (hs2 : s ≤ 256) (hb : Bytes b) (hl : b.length ≤ 30000) (hc : b.length ≤ c) (hR : ReadsInt w .u8 A b.length b)
    (hF : Fr 82 (frI w L0 s SB xb n i rv (.slice A b.length c)) a) (hM : Mk w wr ρ SB [.int .i64 (s : Int), fv, lv] fv lv rv ks st) (hX : RArr wr ρ 6 xb xs) (hf : st.src.length ≤ 40000) (hf2 : st.slices.length ≤ 40000)
    (hQ : ∀ a' w' ρ' lv' rv' ks' A' c', Fr 82 (frI w L0 s SB xb n i rv' (.slice A' 0 c')) a' → Mk w w' ρ' SB [.int .i64 (s : Int), fv, lv'] fv lv' rv' ks' (st.addCs (chunks s b)) → RArr w' ρ' 6 xb xs → Q (.exit 2) a' w') :
    Code.wp Tryd.prog (Code.loop (bodyOf 1)) Q a wr := by
  refine wp_loop (fun a w' => ∃ ρ' lv' rv' ks' A' c' st' rest, Fr 82 (frI w L0 s SB xb n i rv' (.slice A' rest.length c')) a ∧ rest.length ≤ b.length ∧ Bytes rest ∧ rest.length ≤ c' ∧ ReadsInt w .u8 A' rest.length rest ∧ Mk w w' ρ' SB [.int .i64 (s : Int), fv, lv'] fv lv' rv' ks' st' ∧ RArr w' ρ' 6 xb xs ∧ st'.src.length + rest.length ≤ 70000 ∧ st'.slices.length + rest.length ≤ 70000 ∧ st'.addCs (chunks s rest) = st.addCs (chunks s b)) (fun a _ => lenOf (a.tmps.getD 12 undef))
    ⟨ρ, lv, rv, ks, A, c, st, b, hF, Nat.le_refl _, hb, hc, hR, hM, hX, by omega, by omega, rfl⟩ ?_
  rintro a w' ⟨ρ', lv', rv', ks', A', c', st', rest, hF', h1, h2, h3, h4, h5, h6, h7, h8, h9⟩
  have h12 := hF'.at 12 _ rfl
  obtain ⟨u, e⟩ := hF'.out
  rw [e]
  by_cases h0 : rest.length = 0
  · obtain rfl : rest = [] := List.eq_nil_of_length_eq_zero h0
    refine i_last _ fun a2 hF2 => ?_
    rw [chunks_nil] at h9
    exact hQ a2 w' ρ' lv' rv' ks' A' c' hF2 (by rw [← h9]; exact h5) h6
  · have hpos : 0 < rest.length := by omega
    refine i_step _ hs1 hs2 h2 hpos (by omega) h3 h4 h5 h6 (by omega) (by omega) ?_
    intro a2 w2 ρ2 lv2 rv2 ks2 A2 c2 g1 g2 g3 g4 g5
    refine ⟨⟨ρ2, lv2, rv2, ks2, A2, c2, _, rest.drop s, g1, by rw [List.length_drop]; omega, h2.drop s, g2, g3, g4, g5, ?_, ?_, ?_⟩, ?_⟩
    · simp only [Cut.addC, List.length_append, List.length_singleton, List.length_drop]; omega
    · simp only [Cut.addC, List.length_append, List.length_singleton, List.length_drop]; omega
    · rw [← h9, Cut.addCs_step hs1 st' hpos]
    · rw [g1.at 12 _ rfl, ← e, h12]
      show (rest.drop s).length < rest.length
      rw [List.length_drop]; omega
end Go.Proofs.YtlmgikhgmbjfdaaDoor.Cuts
