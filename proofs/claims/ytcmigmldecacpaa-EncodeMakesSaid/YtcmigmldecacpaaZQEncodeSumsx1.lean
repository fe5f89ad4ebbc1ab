/- Machine-made by a program of this claim: functions of the Go program as Lean functions, and that its calls do what these say. Lean checks it. -/
import Derived.Test.YtcmigmldecacpaaZQEncodeSumsx0
import Derived.Test.YtcmigmldecacpaaZGiv
import Derived.Test.YtcmigmldecacpaaZGivFill
import Derived.Test.YtcmigmldecacpaaZGivPicks
import Derived.Test.YtcmigmldecacpaaZGivSClone
namespace Go.Proofs.Ytcmigmldecacpaa.QEncodeSums
open Go.RowKit Go.Proofs.YtcmigmldecacpaaW.PrintWords Go.Proofs.YtcmigmldecacpaaW.PrintLast Go.Proofs.YtcmigmldecacpaaW.PrintMore Go.Proofs.Ytcmigmldecacpaa.Giv
attribute [local go_sem] max2_int min2_int max_two min_two max_three min_three max_four min_four   -- for this text's walks alone
set_option linter.unusedVariables false
set_option linter.unusedSimpArgs false

mutual
def geyserref03_Mul.l0 : Nat → Int → Int → Int → Int → Option (Int)
 | 0, _, _, _, _ => none
 | k + 1, x0, x1, x5, x8 => if x8 < 8 then (if 0 ≤ (IntKind.u64.wrap (x8)) then (if (Go.bits .and .u8 (shr .u8 x1 (IntKind.u64.wrap (x8))) 1) = 1 then (geyserref03_Mul.l0 k x0 x1 (Go.bits .xor .i64 x5 (shl .i64 (wrap64 (x0)) (IntKind.u64.wrap (x8)))) (wrap64 (x8 + 1))) else (geyserref03_Mul.l0 k x0 x1 x5 (wrap64 (x8 + 1)))) else (none)) else (geyserref03_Mul.l1 k x5 14)
def geyserref03_Mul.l1 : Nat → Int → Int → Option (Int)
 | 0, _, _ => none
 | k + 1, x5, x7 => if x7 ≥ 8 then (if 0 ≤ (IntKind.u64.wrap (x7)) then (if (Go.bits .and .i64 (shr .i64 x5 (IntKind.u64.wrap (x7))) 1) = 1 then (if 0 ≤ (IntKind.u64.wrap (wrap64 (x7 - 8))) then (geyserref03_Mul.l1 k (Go.bits .xor .i64 x5 (shl .i64 285 (IntKind.u64.wrap (wrap64 (x7 - 8))))) (wrap64 (x7 - 1))) else (none)) else (geyserref03_Mul.l1 k x5 (wrap64 (x7 - 1)))) else (none)) else (some ((x5) % 256))
end
def geyserref03_Mul.f (k : Nat) (a0 : Int) (a1 : Int) : Option (Int) := geyserref03_Mul.l0 k a0 a1 0 0
theorem geyserref03_Mul.mono_l : ∀ k, (∀ y0 y1 y2 y3, LeO (geyserref03_Mul.l0 k y0 y1 y2 y3) (geyserref03_Mul.l0 (k + 1) y0 y1 y2 y3)) ∧ (∀ y0 y1, LeO (geyserref03_Mul.l1 k y0 y1) (geyserref03_Mul.l1 (k + 1) y0 y1))
 | 0 => ⟨fun _ _ _ _ r h => by simp [geyserref03_Mul.l0] at h, fun _ _ r h => by simp [geyserref03_Mul.l1] at h⟩
 | k + 1 => by
  obtain ⟨ih0, ih1⟩ := geyserref03_Mul.mono_l k
  refine ⟨?_, ?_⟩
  ·intro y0 y1 y2 y3
   unfold geyserref03_Mul.l0
   repeat' first
   | (with_reducible exact ih0 _ _ _ _)
   | (with_reducible exact ih1 _ _)
   | (with_reducible exact LeO.refl _)
   | (with_reducible exact LeO.none _)
   | (with_reducible refine LeO.ite ?_ ?_)
   | (with_reducible refine LeO.bind ?_ (fun _ => ?_))
   | exact ih0 _ _ _ _
   | exact ih1 _ _
   | exact LeO.none _
   | refine LeO.ite ?_ ?_
   | refine LeO.bind ?_ (fun _ => ?_)
  ·intro y0 y1
   unfold geyserref03_Mul.l1
   repeat' first
   | (with_reducible exact ih0 _ _ _ _)
   | (with_reducible exact ih1 _ _)
   | (with_reducible exact LeO.refl _)
   | (with_reducible exact LeO.none _)
   | (with_reducible refine LeO.ite ?_ ?_)
   | (with_reducible refine LeO.bind ?_ (fun _ => ?_))
   | exact ih0 _ _ _ _
   | exact ih1 _ _
   | exact LeO.none _
   | refine LeO.ite ?_ ?_
   | refine LeO.bind ?_ (fun _ => ?_)
theorem geyserref03_Mul.mono : ∀ a0 a1 k, LeO (geyserref03_Mul.f k a0 a1) (geyserref03_Mul.f (k + 1) a0 a1) := by
 intro a0 a1 k
 obtain ⟨ih0, ih1⟩ := geyserref03_Mul.mono_l k
 unfold geyserref03_Mul.f
 repeat' first
   | (with_reducible exact ih0 _ _ _ _)
   | (with_reducible exact ih1 _ _)
   | (with_reducible exact LeO.refl _)
   | (with_reducible exact LeO.none _)
   | (with_reducible refine LeO.ite ?_ ?_)
   | (with_reducible refine LeO.bind ?_ (fun _ => ?_))
   | exact ih0 _ _ _ _
   | exact ih1 _ _
   | exact LeO.none _
   | refine LeO.ite ?_ ?_
   | refine LeO.bind ?_ (fun _ => ?_)
set_option maxHeartbeats 8000000 in
set_option maxRecDepth 100000 in
theorem geyserref03_Mul.calls (k : Nat) (a0 : Int) (a1 : Int) (r : Int) (w : World) (h : geyserref03_Mul.f k a0 a1 = some r) :
  Calls Try.prog 40 #[.int .u8 a0, .int .u8 a1] w fun e w' => e = .returned (.int .u8 r) ∧ Drawn0 w w' := by
 have H : (geyserref03_Mul.l0 k a0 a1 0 0) = some r := h
 clear h
 have H' := Aside0.mk H
 clear H
 go_enter Try.func40, Try.ntmps40
 go_wp2
 go_loopg [5, 8] k (fun kq v5 v8 w' => ∃ (x5_1 : Int) (x8_1 : Int), v5 = .int .i64 x5_1 ∧ v8 = .int .i64 x8_1 ∧ Aside0 (geyserref03_Mul.l0 kq a0 a1 x5_1 x8_1 = some r) ∧ Aside0 (kq ≤ k) ∧ Drawn0 w w')
 case atStart => exact ⟨(0), (0), (by first | rfl | (simp; done) | (simp [*]; done)), (by first | rfl | (simp; done) | (simp [*]; done)), H', ⟨Nat.le_refl _⟩, by repeat (first | exact Drawn0.refl _ | apply Drawn0.step)⟩
 case round =>
  clear H'
  try clear p2
  obtain ⟨x5_1, x8_1, rfl, rfl, HA, HK1, ⟨m1, rfl⟩⟩ := hrel
  cases gk with
  | zero => exact absurd HA.out (by simp [geyserref03_Mul.l0])
  | succ k1 =>
   have H := HA.out
   clear HA
   simp only [geyserref03_Mul.l0] at H
   by_cases c3 : x8_1 < 8
   ·rw [if_pos c3] at H
    have c3b0 : decide (x8_1 < 8) = true := decide_eq_true c3
    clear c3
    obtain ⟨ji4, hji4⟩ : ∃ j_ : Int, (IntKind.u64.wrap (x8_1)) = j_ := ⟨_, rfl⟩
    replace H : (if 0 ≤ (ji4) then (if (Go.bits .and .u8 (shr .u8 a1 (ji4)) 1) = 1 then (geyserref03_Mul.l0 k1 a0 a1 (Go.bits .xor .i64 x5_1 (shl .i64 (wrap64 (a0)) (ji4))) (wrap64 (x8_1 + 1))) else (geyserref03_Mul.l0 k1 a0 a1 x5_1 (wrap64 (x8_1 + 1)))) else (none)) = some r := by first | (rw [hji4] at H; exact H) | (simp only [hji4] at H ⊢; exact H)
    by_cases c5 : 0 ≤ (ji4)
    ·rw [if_pos c5] at H
     have c5b0 := eq_true c5
     have c5b1 : decide (0 ≤ (ji4)) = true := decide_eq_true c5
     clear c5
     obtain ⟨ji6, hji6⟩ : ∃ j_ : Int, (shr .u8 a1 (ji4)) = j_ := ⟨_, rfl⟩
     replace H : (if (Go.bits .and .u8 (ji6) 1) = 1 then (geyserref03_Mul.l0 k1 a0 a1 (Go.bits .xor .i64 x5_1 (shl .i64 (wrap64 (a0)) (ji4))) (wrap64 (x8_1 + 1))) else (geyserref03_Mul.l0 k1 a0 a1 x5_1 (wrap64 (x8_1 + 1)))) = some r := by first | (rw [hji6] at H; exact H) | (simp only [hji6] at H ⊢; exact H)
     have hji6_ : (a1 / 2 ^ min (ji4).toNat 8) = ji6 := hji6
     have hji6z : (ji4) ≤ 8 → (a1 / 2 ^ (ji4).toNat) = ji6 := shr_small hji6
     by_cases c7 : (Go.bits .and .u8 (ji6) 1) = 1
     ·rw [if_pos c7] at H
      have c7b0 : ((Go.bits .and .u8 (ji6) 1) == 1) = true := beq_iff_eq.mpr c7
      have c7b1 : ((Go.bits .and .u8 (ji6) 1) != 1) = false := bne_eq_false_iff_eq.mpr c7
      clear c7
      have c8b0 := eq_true (of_decide_eq_true (by first | (with_reducible assumption) | assumption) : 0 ≤ (ji4))
      obtain ⟨ji9, hji9⟩ : ∃ j_ : Int, (shl .i64 (wrap64 (a0)) (ji4)) = j_ := ⟨_, rfl⟩
      replace H : (geyserref03_Mul.l0 k1 a0 a1 (Go.bits .xor .i64 x5_1 (ji9)) (wrap64 (x8_1 + 1))) = some r := by first | (rw [hji9] at H; exact H) | (simp only [hji9] at H ⊢; exact H)
      have hji9_ : (IntKind.i64.wrap ((wrap64 (a0)) * 2 ^ min (ji4).toNat 64)) = ji9 := hji9
      have hji9z : (ji4) ≤ 64 → (IntKind.i64.wrap ((wrap64 (a0)) * 2 ^ (ji4).toNat)) = ji9 := shl_small hji9
      have hji9y : (wrap64 ((wrap64 (a0)) * 2 ^ min (ji4).toNat 64)) = ji9 := (i64_w _).symm.trans hji9_
      have hji9x : (ji4) ≤ 64 → (wrap64 ((wrap64 (a0)) * 2 ^ (ji4).toNat)) = ji9 := fun h_ => (i64_w _).symm.trans (hji9z h_)
      have H' := Aside0.mk H
      clear H
      go_wp2
      go_roundg k1
      case measure => have := HK1.out; omega
      case rel => exact ⟨(Go.bits .xor .i64 x5_1 (ji9)), (wrap64 (x8_1 + 1)), (by first | rfl | (simp; done) | (simp only [← hji9] <;> (first | rfl | simp)) | (simp [*]; done)), (by first | rfl | (simp; done) | (simp [*]; done)), H', ⟨by have := HK1.out; omega⟩, by repeat (first | exact Drawn0.refl _ | apply Drawn0.step)⟩
     ·rw [if_neg c7] at H
      have c7b0 : ((Go.bits .and .u8 (ji6) 1) == 1) = false := beq_eq_false_iff_ne.mpr c7
      have c7b1 : ((Go.bits .and .u8 (ji6) 1) != 1) = true := bne_iff_ne.mpr c7
      have H' := Aside0.mk H
      clear H
      go_wp2
      go_roundg k1
      case measure => have := HK1.out; omega
      case rel => exact ⟨(x5_1), (wrap64 (x8_1 + 1)), (by first | rfl | (simp; done) | (simp [*]; done)), (by first | rfl | (simp; done) | (simp [*]; done)), H', ⟨by have := HK1.out; omega⟩, by repeat (first | exact Drawn0.refl _ | apply Drawn0.step)⟩
    ·rw [if_neg c5] at H
     exact absurd H (by simp)
   ·rw [if_neg c3] at H
    have c3b0 : decide (x8_1 < 8) = false := decide_eq_false c3
    clear c3
    have H' := Aside0.mk H
    clear H
    go_wp2
    go_loopg [5, 7] k1 (fun kq v5 v7 w' => ∃ (x5_2 : Int) (x7_2 : Int), v5 = .int .i64 x5_2 ∧ v7 = .int .i64 x7_2 ∧ Aside0 (geyserref03_Mul.l1 kq x5_2 x7_2 = some r) ∧ Aside0 (kq ≤ k1) ∧ Drawn0 w w')
    case atStart => exact ⟨(x5_1), (14), (by first | rfl | (simp; done) | (simp [*]; done)), (by first | rfl | (simp; done) | (simp [*]; done)), H', ⟨Nat.le_refl _⟩, by repeat (first | exact Drawn0.refl _ | apply Drawn0.step)⟩
    case round =>
     clear H'
     try clear p2
     try clear c3
     try clear c3b0
     try clear c4
     try clear c5
     try clear c5b0
     try clear c5b1
     try clear p6
     try clear c7
     try clear c7b0
     try clear c7b1
     try clear c8
     try clear c8b0
     try clear p2
     obtain ⟨x5_2, x7_2, rfl, rfl, HA, HK2, ⟨m2, rfl⟩⟩ := hrel
     cases gk with
     | zero => exact absurd HA.out (by simp [geyserref03_Mul.l1])
     | succ k2 =>
      have H := HA.out
      clear HA
      simp only [geyserref03_Mul.l1] at H
      by_cases c10 : x7_2 ≥ 8
      ·rw [if_pos c10] at H
       have c10b0 : decide (8 ≤ x7_2) = true := decide_eq_true c10
       clear c10
       obtain ⟨ji11, hji11⟩ : ∃ j_ : Int, (IntKind.u64.wrap (x7_2)) = j_ := ⟨_, rfl⟩
       replace H : (if 0 ≤ (ji11) then (if (Go.bits .and .i64 (shr .i64 x5_2 (ji11)) 1) = 1 then (if 0 ≤ (IntKind.u64.wrap (wrap64 (x7_2 - 8))) then (geyserref03_Mul.l1 k2 (Go.bits .xor .i64 x5_2 (shl .i64 285 (IntKind.u64.wrap (wrap64 (x7_2 - 8))))) (wrap64 (x7_2 - 1))) else (none)) else (geyserref03_Mul.l1 k2 x5_2 (wrap64 (x7_2 - 1)))) else (none)) = some r := by first | (rw [hji11] at H; exact H) | (simp only [hji11] at H ⊢; exact H)
       by_cases c12 : 0 ≤ (ji11)
       ·rw [if_pos c12] at H
        have c12b0 := eq_true c12
        have c12b1 : decide (0 ≤ (ji11)) = true := decide_eq_true c12
        clear c12
        obtain ⟨ji13, hji13⟩ : ∃ j_ : Int, (shr .i64 x5_2 (ji11)) = j_ := ⟨_, rfl⟩
        replace H : (if (Go.bits .and .i64 (ji13) 1) = 1 then (if 0 ≤ (IntKind.u64.wrap (wrap64 (x7_2 - 8))) then (geyserref03_Mul.l1 k2 (Go.bits .xor .i64 x5_2 (shl .i64 285 (IntKind.u64.wrap (wrap64 (x7_2 - 8))))) (wrap64 (x7_2 - 1))) else (none)) else (geyserref03_Mul.l1 k2 x5_2 (wrap64 (x7_2 - 1)))) = some r := by first | (rw [hji13] at H; exact H) | (simp only [hji13] at H ⊢; exact H)
        have hji13_ : (x5_2 / 2 ^ min (ji11).toNat 64) = ji13 := hji13
        have hji13z : (ji11) ≤ 64 → (x5_2 / 2 ^ (ji11).toNat) = ji13 := shr_small hji13
        by_cases c14 : (Go.bits .and .i64 (ji13) 1) = 1
        ·rw [if_pos c14] at H
         have c14b0 : ((Go.bits .and .i64 (ji13) 1) == 1) = true := beq_iff_eq.mpr c14
         have c14b1 : ((Go.bits .and .i64 (ji13) 1) != 1) = false := bne_eq_false_iff_eq.mpr c14
         clear c14
         obtain ⟨ji15, hji15⟩ : ∃ j_ : Int, (IntKind.u64.wrap (wrap64 (x7_2 - 8))) = j_ := ⟨_, rfl⟩
         replace H : (if 0 ≤ (ji15) then (geyserref03_Mul.l1 k2 (Go.bits .xor .i64 x5_2 (shl .i64 285 (ji15))) (wrap64 (x7_2 - 1))) else (none)) = some r := by first | (rw [hji15] at H; exact H) | (simp only [hji15] at H ⊢; exact H)
         by_cases c16 : 0 ≤ (ji15)
         ·rw [if_pos c16] at H
          have c16b0 := eq_true c16
          have c16b1 : decide (0 ≤ (ji15)) = true := decide_eq_true c16
          clear c16
          obtain ⟨ji17, hji17⟩ : ∃ j_ : Int, (shl .i64 285 (ji15)) = j_ := ⟨_, rfl⟩
          replace H : (geyserref03_Mul.l1 k2 (Go.bits .xor .i64 x5_2 (ji17)) (wrap64 (x7_2 - 1))) = some r := by first | (rw [hji17] at H; exact H) | (simp only [hji17] at H ⊢; exact H)
          have hji17_ : (IntKind.i64.wrap (285 * 2 ^ min (ji15).toNat 64)) = ji17 := hji17
          have hji17z : (ji15) ≤ 64 → (IntKind.i64.wrap (285 * 2 ^ (ji15).toNat)) = ji17 := shl_small hji17
          have hji17y : (wrap64 (285 * 2 ^ min (ji15).toNat 64)) = ji17 := (i64_w _).symm.trans hji17_
          have hji17x : (ji15) ≤ 64 → (wrap64 (285 * 2 ^ (ji15).toNat)) = ji17 := fun h_ => (i64_w _).symm.trans (hji17z h_)
          have H' := Aside0.mk H
          clear H
          go_wp2
          go_roundg k2
          case measure => have := HK1.out; have := HK2.out; omega
          case rel => exact ⟨(Go.bits .xor .i64 x5_2 (ji17)), (wrap64 (x7_2 - 1)), (by first | rfl | (simp; done) | (simp only [← hji17] <;> (first | rfl | simp)) | (simp [*]; done)), (by first | rfl | (simp; done) | (simp [*]; done)), H', ⟨by have := HK1.out; have := HK2.out; omega⟩, by repeat (first | exact Drawn0.refl _ | apply Drawn0.step)⟩
         ·rw [if_neg c16] at H
          exact absurd H (by simp)
        ·rw [if_neg c14] at H
         have c14b0 : ((Go.bits .and .i64 (ji13) 1) == 1) = false := beq_eq_false_iff_ne.mpr c14
         have c14b1 : ((Go.bits .and .i64 (ji13) 1) != 1) = true := bne_iff_ne.mpr c14
         have H' := Aside0.mk H
         clear H
         go_wp2
         go_roundg k2
         case measure => have := HK1.out; have := HK2.out; omega
         case rel => exact ⟨(x5_2), (wrap64 (x7_2 - 1)), (by first | rfl | (simp; done) | (simp [*]; done)), (by first | rfl | (simp; done) | (simp [*]; done)), H', ⟨by have := HK1.out; have := HK2.out; omega⟩, by repeat (first | exact Drawn0.refl _ | apply Drawn0.step)⟩
       ·rw [if_neg c12] at H
        exact absurd H (by simp)
      ·rw [if_neg c10] at H
       have c10b0 : decide (8 ≤ x7_2) = false := decide_eq_false c10
       clear c10
       obtain rfl := Option.some.inj H
       go_wp2
       go_ret
       exact ⟨by first | rfl | (simp; done) | (simp [*]; done), by repeat (first | exact Drawn0.refl _ | apply Drawn0.step)⟩

def geyserref03_Plus.l0 : Nat → List Int → List Int → Int → List Int → Int → Int → Option (List Int)
 | 0, _, _, _, _, _, _ => none
 | k + 1, x0, x1, x2, x7, x13, x14 => if x14 < x13 then (if 0 ≤ x14 then (if x14 < (x0.length : Int) then (if x14 < (x1.length : Int) then ((geyserref03_Mul.f k (rd x1 x14) x2).bind fun t106 => (if x14 < (x7.length : Int) then (geyserref03_Plus.l0 k x0 x1 x2 (x7.set (x14 : Int).toNat (Go.bits .xor .u8 (rd x0 x14) t106)) x13 (wrap64 (x14 + 1))) else (none))) else (none)) else (none)) else (none)) else (some x7)
def geyserref03_Plus.f (k : Nat) (l0 : List Int) (l1 : List Int) (a2 : Int) : Option (List Int) := if 0 ≤ (l0.length : Int) then (if ((l0.length : Int) : Int).toNat ≤ 281474976710656 then (geyserref03_Plus.l0 k l0 l1 a2 (List.replicate ((l0.length : Int) : Int).toNat 0) (l0.length : Int) 0) else (none)) else (none)
theorem geyserref03_Plus.mono_l : ∀ k, (∀ y0 y1 y2 y3 y4 y5, LeO (geyserref03_Plus.l0 k y0 y1 y2 y3 y4 y5) (geyserref03_Plus.l0 (k + 1) y0 y1 y2 y3 y4 y5))
 | 0 => fun _ _ _ _ _ _ r h => by simp [geyserref03_Plus.l0] at h
 | k + 1 => by
  have ih0 := geyserref03_Plus.mono_l k
  ·intro y0 y1 y2 y3 y4 y5
   unfold geyserref03_Plus.l0
   repeat' first
   | (with_reducible exact ih0 _ _ _ _ _ _)
   | (with_reducible exact geyserref03_Mul.mono _ _ _)
   | (with_reducible exact LeO.refl _)
   | (with_reducible exact LeO.none _)
   | (with_reducible refine LeO.ite ?_ ?_)
   | (with_reducible refine LeO.bind ?_ (fun _ => ?_))
   | exact ih0 _ _ _ _ _ _
   | exact geyserref03_Mul.mono _ _ _
   | exact LeO.none _
   | refine LeO.ite ?_ ?_
   | refine LeO.bind ?_ (fun _ => ?_)
theorem geyserref03_Plus.mono : ∀ a0 a1 a2 k, LeO (geyserref03_Plus.f k a0 a1 a2) (geyserref03_Plus.f (k + 1) a0 a1 a2) := by
 intro a0 a1 a2 k
 have ih0 := geyserref03_Plus.mono_l k
 unfold geyserref03_Plus.f
 repeat' first
   | (with_reducible exact ih0 _ _ _ _ _ _)
   | (with_reducible exact geyserref03_Mul.mono _ _ _)
   | (with_reducible exact LeO.refl _)
   | (with_reducible exact LeO.none _)
   | (with_reducible refine LeO.ite ?_ ?_)
   | (with_reducible refine LeO.bind ?_ (fun _ => ?_))
   | exact ih0 _ _ _ _ _ _
   | exact geyserref03_Mul.mono _ _ _
   | exact LeO.none _
   | refine LeO.ite ?_ ?_
   | refine LeO.bind ?_ (fun _ => ?_)
def geyserref03_Plus.T5 : Bool × List (List Nat × List Nat) := (true, [([], []), ([], []), ([], []), ([], []), ([2, 3], [2, 3]), ([4], [4]), ([], []), ([], []), ([6, 7], [6, 7]), ([8], [8]), ([], []), ([9, 10], [9, 10]), ([5, 11], [5, 11]), ([0, 1, 0, 1, 2, 3, 4, 5, 6, 7, 8, 9, 10, 11, 12], [0, 1]), ([13, 12, 11, 0, 1, 2, 3, 4, 5, 6, 7, 8, 9, 10, 11, 12], [12, 13])])
def geyserref03_Plus.B5 : List Nat := [0, 0, 0, 0, 12, 28, 0, 0, 192, 448, 0, 1984, 4092, 8191, 16383]
theorem geyserref03_Plus.tab5 : rtab .any (opsOf Try.f20 5) = geyserref03_Plus.T5 := by kernel_rfl
theorem geyserref03_Plus.bits5 : waitsOk geyserref03_Plus.T5.2 geyserref03_Plus.B5 = true := by kernel_rfl
set_option maxHeartbeats 8000000 in
set_option maxRecDepth 100000 in
theorem geyserref03_Plus.calls (k : Nat) (A0 : Option Addr) (c0 : Nat) (l0 : List Int) (A1 : Option Addr) (c1 : Nat) (l1 : List Int) (a2 : Int) (r : List Int) (w : World) (hr0 : Kd.C (Kd.int .u8) w A0 l0.length l0) (hc0 : l0.length ≤ c0) (hr1 : Kd.C (Kd.int .u8) w A1 l1.length l1) (hc1 : l1.length ≤ c1) (h : geyserref03_Plus.f k l0 l1 a2 = some r) :
  Calls Try.prog 20 #[.slice A0 l0.length c0, .slice A1 l1.length c1, .int .u8 a2] w fun e w' => ∃ v0_ : Value, e = .returned (v0_) ∧ Kd.R (Kd.int .u8) 5 w' w.heap.size (fun _ => True) v0_ r ∧ Below w.heap.size w w' := by
 have HR0 := Aside0.mk hr0
 have HC0 := Aside0.mk hc0
 clear hr0 hc0
 have HR1 := Aside0.mk hr1
 have HC1 := Aside0.mk hc1
 clear hr1 hc1
 have HB := Aside0.mk (Below.refl w.heap.size w)
 have H : (if 0 ≤ (l0.length : Int) then (if ((l0.length : Int) : Int).toNat ≤ 281474976710656 then (geyserref03_Plus.l0 k l0 l1 a2 (List.replicate ((l0.length : Int) : Int).toNat 0) (l0.length : Int) 0) else (none)) else (none)) = some r := h
 clear h
 by_cases c4 : 0 ≤ (l0.length : Int)
 ·rw [if_pos c4] at H
  have c4b0 := eq_true c4
  have c4b1 : decide (0 ≤ (l0.length : Int)) = true := decide_eq_true c4
  clear c4
  by_cases c5 : ((l0.length : Int) : Int).toNat ≤ 281474976710656
  ·rw [if_pos c5] at H
   have c5b0 := eq_true c5
   have c5b1 : decide (((l0.length : Int) : Int).toNat ≤ 281474976710656) = true := decide_eq_true c5
   clear c5
   obtain ⟨y101, hy101⟩ : ∃ y_ : List Int, y_ = (List.replicate ((l0.length : Int) : Int).toNat 0) := ⟨_, rfl⟩
   replace H : (geyserref03_Plus.l0 k l0 l1 a2 y101 (l0.length : Int) 0) = some r := by first | (rw [hy101]; with_reducible exact H) | (have H2_ := (Option.bind_some _ _).symm.trans H; rw [hy101]; with_reducible exact H2_) | (have H2_ := (Option.bind_some _ _).symm.trans H; with_reducible exact H2_) | with_reducible exact H | (rw [hy101]; exact H) | exact H
   have Ny101 := Aside0.mk hy101
   clear hy101
   have H' := Aside0.mk H
   clear H
   go_enter Try.func20, Try.ntmps20
   go_wp2_with (first | ((with_reducible refine gate_dst (N := 11) rfl ?_); refine Kd.R_make (Kd.int .u8) _ 5 rfl (N := 11) rfl 31 _ _ rfl (l0.length : Int) rfl rfl Try.underlying31 (.int .u8 0) 1 info5 rfl (by decide) (by omega) 0 (ok := fun _ => True) (okp := fun _ => True) rfl (fun _ hk => hk) trivial (of_decide_eq_true (by first | (with_reducible assumption) | assumption)) (Nat.le_trans (Nat.mul_le_mul_right _ (of_decide_eq_true (by first | (with_reducible assumption) | assumption) : (l0.length : Int).toNat ≤ 281474976710656)) (by omega)) (Below.refl _ _) (Nat.le_refl _) ?_; intro v102 w6 ho7 hb hg_ hnew_; clear hg_ hnew_; (first | rw [← Ny101.out] at ho7 | (simp only [Int.reduceToNat] at ho7; rw [← Ny101.out] at ho7)); have n0_ := Aside0.mk (Kd.R_lower ho7 (below_size (by repeat (first | (with_reducible first | exact HB.out | apply below_alloc | apply pw_below_drewN | apply below_drew1) | exact HB.out)))); have n1_ := Aside0.mk (below_step (by repeat (first | (with_reducible first | exact HB.out | apply below_alloc | apply pw_below_drewN | apply below_drew1) | exact HB.out)) hb); clear HB; have HO103 := n0_; have HB := n1_; clear n0_ n1_; clear hb ho7))
   go_loopg [14] k (fun kq v14 w' => ∃ (x7_1 : List Int) (x14_1 : Int), v14 = .int .i64 x14_1 ∧ Aside0 (geyserref03_Plus.l0 kq l0 l1 a2 x7_1 (l0.length : Int) x14_1 = some r) ∧ Aside0 (kq ≤ k) ∧ Aside0 (Kd.R (Kd.int .u8) 5 w' w.heap.size (fun _ => True) v102 x7_1) ∧ Aside0 (Below w.heap.size w w'))
   case atStart => exact ⟨(y101), (0), (by first | rfl | (simp; done) | (simp [*]; done)), H', ⟨Nat.le_refl _⟩, ⟨by (with_reducible repeat (first | apply Kd.R_alloc | apply Kd.R_drewN | apply Kd.R_drew)); exact HO103.out⟩, ⟨by repeat (first | (with_reducible first | exact HB.out | apply below_alloc | apply pw_below_drewN | apply below_drew1) | exact HB.out)⟩⟩
   case round =>
    clear H'
    try clear c1
    try clear c2
    try clear p2
    try clear c4
    try clear c4b0
    try clear c4b1
    try clear c5
    try clear c5b0
    try clear c5b1
    obtain ⟨x7_1, x14_1, rfl, HA, HK1, HO_7, HB⟩ := hrel
    cases gk with
    | zero => exact absurd HA.out (by simp [geyserref03_Plus.l0])
    | succ k1 =>
     have H := HA.out
     clear HA
     simp only [geyserref03_Plus.l0] at H
     by_cases c8 : x14_1 < (l0.length : Int)
     ·rw [if_pos c8] at H
      have c8b0 : decide (x14_1 < (l0.length : Int)) = true := decide_eq_true c8
      clear c8
      by_cases c9 : 0 ≤ x14_1
      ·rw [if_pos c9] at H
       have c9b0 : decide (0 ≤ x14_1) = true := decide_eq_true c9
       clear c9
       by_cases c10 : x14_1 < (l0.length : Int)
       ·rw [if_pos c10] at H
        have c10b0 : decide (x14_1 < (l0.length : Int)) = true := decide_eq_true c10
        clear c10
        by_cases c11 : x14_1 < (l1.length : Int)
        ·rw [if_pos c11] at H
         have c11b0 : decide (x14_1 < (l1.length : Int)) = true := decide_eq_true c11
         clear c11
         replace H := Option.bind_eq_some_iff.mp H
         obtain ⟨t106, A120, H⟩ := H
         replace H : (if x14_1 < (x7_1.length : Int) then (geyserref03_Plus.l0 k1 l0 l1 a2 (x7_1.set (x14_1 : Int).toNat (Go.bits .xor .u8 (rd l0 x14_1) t106)) (l0.length : Int) (wrap64 (x14_1 + 1))) else (none)) = some r := H
         have A12 := Aside0.mk A120
         clear A120
         by_cases c13 : x14_1 < (x7_1.length : Int)
         ·rw [if_pos c13] at H
          have c13b0 : decide (x14_1 < (x7_1.length : Int)) = true := decide_eq_true c13
          clear c13
          obtain ⟨y107, hy107⟩ : ∃ y_ : List Int, y_ = (x7_1.set (x14_1 : Int).toNat (Go.bits .xor .u8 (rd l0 x14_1) t106)) := ⟨_, rfl⟩
          replace H : (geyserref03_Plus.l0 k1 l0 l1 a2 y107 (l0.length : Int) (wrap64 (x14_1 + 1))) = some r := by first | (rw [hy107]; with_reducible exact H) | (have H2_ := (Option.bind_some _ _).symm.trans H; rw [hy107]; with_reducible exact H2_) | (have H2_ := (Option.bind_some _ _).symm.trans H; with_reducible exact H2_) | with_reducible exact H | (rw [hy107]; exact H) | exact H
          have Ny107 := Aside0.mk hy107
          clear hy107
          have H' := Aside0.mk H
          clear H
          try go_wp2
          have n0_ := Aside0.mk (Kd.R_drew HO_7.out)
          have n1_ := Aside0.mk (below_drew1 HB.out)
          clear HO_7
          clear HB
          have HO_7 := n0_
          have HB := n1_
          clear n0_ n1_
          have p104 : 0 ≤ (x14_1 : Int) := of_decide_eq_true (by first | (with_reducible assumption) | assumption)
          have q104 : x14_1 < (l0.length : Int) := of_decide_eq_true (by first | (with_reducible assumption) | assumption)
          obtain ⟨ad104, e104, hx104_0⟩ := Kd.at_int HR0.out x14_1 p104 q104
          have hw104_0 := hx104_0
          cases e104
          (first | (replace hx104_0 := (HB.out.cell (World.block_lt_of_cell? w _ hx104_0)).trans hx104_0) | skip)
          replace p104 := eq_true p104
          replace q104 := eq_true q104
          have p105 : 0 ≤ (x14_1 : Int) := of_decide_eq_true (by first | (with_reducible assumption) | assumption)
          have q105 : x14_1 < (l1.length : Int) := of_decide_eq_true (by first | (with_reducible assumption) | assumption)
          obtain ⟨ad105, e105, hx105_0⟩ := Kd.at_int HR1.out x14_1 p105 q105
          have hw105_0 := hx105_0
          cases e105
          (first | (replace hx105_0 := (HB.out.cell (World.block_lt_of_cell? w _ hx105_0)).trans hx105_0) | skip)
          replace p105 := eq_true p105
          replace q105 := eq_true q105
          refine start_ (n := 15) (S := fun w' => w'.cell? (ad104.add (x14_1).toNat) = some (.int .u8 (rd l0 x14_1)) ∧ w'.cell? (ad105.add (x14_1).toNat) = some (.int .u8 (rd l1 x14_1))) (ds := [14]) #[false, false, false, false, false, false, false, false, false, false, false, false, false, false, false] (by kernel_rfl) rfl rfl ⟨((HB.out.cell (World.block_lt_of_cell? w _ hw104_0)).trans hw104_0), ((HB.out.cell (World.block_lt_of_cell? w _ hw105_0)).trans hw105_0)⟩ (fun hHeld => ?_); refine with_tabW geyserref03_Plus.tab5 geyserref03_Plus.bits5 (fun HT_ HW_ => ?_)
          generalize wr.drew = w15 at HO_7 HB hx104_0 hx105_0 hHeld ⊢
          refine pure_ (i := 0) (N := some 17) (v := ?_) (a' := ?_) #[true, false, false, false, false, false, false, false, false, false, false, false, false, false, false] rfl rfl (any_of HT_.out (by kernel_rfl)) (fun _ _ _ h => h) (Or.inl ⟨by rfl, ?_⟩) ?_ ?_
          rotate_left
          ·intro w'
           go_simp
           with_reducible rfl
          rotate_left
          ·simp only [Act.put, List.setIfInBounds_toArray, List.set_cons_zero, List.set_cons_succ, i64_w, i32_w]
           rfl
          refine pure_ (i := 1) (N := some 18) (v := ?_) (a' := ?_) #[true, true, false, false, false, false, false, false, false, false, false, false, false, false, false] rfl rfl (any_of HT_.out (by kernel_rfl)) (fun _ _ _ h => h) (Or.inl ⟨by rfl, ?_⟩) ?_ ?_
          rotate_left
          ·intro w'
           go_simp
           with_reducible rfl
          rotate_left
          ·simp only [Act.put, List.setIfInBounds_toArray, List.set_cons_zero, List.set_cons_succ, i64_w, i32_w]
           rfl
          refine pure_ (i := 2) (N := some 19) (v := ?_) (a' := ?_) #[true, true, true, false, false, false, false, false, false, false, false, false, false, false, false] rfl rfl (any_of HT_.out (by kernel_rfl)) (fun _ _ _ h => h) (Or.inl ⟨by rfl, ?_⟩) ?_ ?_
          rotate_left
          ·intro w'
           go_simp
           with_reducible rfl
          rotate_left
          ·simp only [Act.put, List.setIfInBounds_toArray, List.set_cons_zero, List.set_cons_succ, i64_w, i32_w]
           rfl
          refine pure_ (i := 3) (N := some 20) (v := ?_) (a' := ?_) #[true, true, true, true, false, false, false, false, false, false, false, false, false, false, false] rfl rfl (any_of HT_.out (by kernel_rfl)) (fun _ _ _ h => h) (Or.inl ⟨by rfl, ?_⟩) ?_ ?_
          rotate_left
          ·intro w'
           go_simp
           with_reducible rfl
          rotate_left
          ·simp only [Act.put, List.setIfInBounds_toArray, List.set_cons_zero, List.set_cons_succ, i64_w, i32_w]
           rfl
          refine pure_ (i := 4) (N := some 21) (v := ?_) (a' := ?_) #[true, true, true, true, true, false, false, false, false, false, false, false, false, false, false] rfl rfl (any_of HT_.out (by kernel_rfl)) (fun _ _ _ h => h) (Or.inl ⟨by rfl, ?_⟩) ?_ ?_
          rotate_left
          ·intro w'
           go_simp
           with_reducible rfl
          rotate_left
          ·simp only [Act.put, List.setIfInBounds_toArray, List.set_cons_zero, List.set_cons_succ, i64_w, i32_w]
           rfl
          refine pure_ (i := 6) (N := some 23) (v := ?_) (a' := ?_) #[true, true, true, true, true, false, true, false, false, false, false, false, false, false, false] rfl rfl (any_of HT_.out (by kernel_rfl)) (fun _ _ _ h => h) (Or.inl ⟨by rfl, ?_⟩) ?_ ?_
          rotate_left
          ·intro w'
           go_simp
           with_reducible rfl
          rotate_left
          ·simp only [Act.put, List.setIfInBounds_toArray, List.set_cons_zero, List.set_cons_succ, i64_w, i32_w]
           rfl
          refine pure_ (i := 7) (N := some 24) (v := ?_) (a' := ?_) #[true, true, true, true, true, false, true, true, false, false, false, false, false, false, false] rfl rfl (any_of HT_.out (by kernel_rfl)) (fun _ _ _ h => h) (Or.inl ⟨by rfl, ?_⟩) ?_ ?_
          rotate_left
          ·intro w'
           go_simp
           with_reducible rfl
          rotate_left
          ·simp only [Act.put, List.setIfInBounds_toArray, List.set_cons_zero, List.set_cons_succ, i64_w, i32_w]
           rfl
          refine pure_ (i := 8) (N := some 25) (v := ?_) (a' := ?_) #[true, true, true, true, true, false, true, true, true, false, false, false, false, false, false] rfl rfl (any_of HT_.out (by kernel_rfl)) (fun _ _ _ h => h) (Or.inl ⟨by rfl, ?_⟩) ?_ ?_
          rotate_left
          ·intro w'
           go_simp
           with_reducible rfl
          rotate_left
          ·simp only [Act.put, List.setIfInBounds_toArray, List.set_cons_zero, List.set_cons_succ, i64_w, i32_w]
           rfl
          refine pure_ (i := 10) (N := some 27) (v := ?_) (a' := ?_) #[true, true, true, true, true, false, true, true, true, false, true, false, false, false, false] rfl rfl (any_of HT_.out (by kernel_rfl)) (fun _ _ _ h => h) (Or.inl ⟨by rfl, ?_⟩) ?_ ?_
          rotate_left
          ·intro w'
           go_simp
           with_reducible rfl
          rotate_left
          ·simp only [Act.put, List.setIfInBounds_toArray, List.set_cons_zero, List.set_cons_succ, i64_w, i32_w]
           rfl
          refine take_ (i := 5) (N := some 22) (v := ?_) (a' := ?_) #[true, true, true, true, true, true, true, true, true, false, true, false, false, false, false] rfl rfl (take_ofW HT_.out HW_.out (by kernel_rfl)) (fun _ _ _ h => h) (Or.inl ⟨by rfl, ?_⟩) hHeld ?_ ?_
          rotate_left
          ·rintro w' ⟨s0, s1⟩
           go_simp
           with_reducible rfl
          rotate_left
          ·simp only [Act.put, List.setIfInBounds_toArray, List.set_cons_zero, List.set_cons_succ, i64_w, i32_w]
           rfl
          refine take_ (i := 9) (N := some 26) (v := ?_) (a' := ?_) #[true, true, true, true, true, true, true, true, true, true, true, false, false, false, false] rfl rfl (take_ofW HT_.out HW_.out (by kernel_rfl)) (fun _ _ _ h => h) (Or.inl ⟨by rfl, ?_⟩) hHeld ?_ ?_
          rotate_left
          ·rintro w' ⟨s0, s1⟩
           go_simp
           with_reducible rfl
          rotate_left
          ·simp only [Act.put, List.setIfInBounds_toArray, List.set_cons_zero, List.set_cons_succ, i64_w, i32_w]
           rfl
          refine one_ (i := 11) (N := some 28) #[true, true, true, true, true, true, true, true, true, true, true, true, false, false, false] rfl rfl (one_of HT_.out (by kernel_rfl)) (by decide) (fun K hK => ?_)
          refine goes_ Try.func40 (by kernel_rfl) rfl #[.int .u8 (rd l1 x14_1), .int .u8 a2] (by rfl) rfl rfl (by (try simp only [List.map_toArray, List.map_cons, List.map_nil]); first | done | rfl | (simp only [List.length_drop, List.length_take]; rfl)) ?_
          with_reducible refine (geyserref03_Mul.calls k1 (rd l1 x14_1) a2 t106 _ A12.out).mono ?_
          rintro e w' ⟨rfl, ⟨nd, rfl⟩⟩
          refine ⟨_, rfl, ?_⟩
          have p14 : 0 ≤ (x14_1 : Int) := of_decide_eq_true (by first | (with_reducible assumption) | assumption)
          have q14 : (x14_1 : Int) < ((x7_1.length : Int) : Int) := of_decide_eq_true (by first | (with_reducible assumption) | assumption)
          obtain ⟨go14, co14, eo14, gb14, gl14, cl14, HG14⟩ := Kd.R_form HO_7.out (by omega)
          (first | cases eo14 | (injection eo14 with ea_ en_ ec_; (first | subst ea_ | (injection ea_ with ea_; subst ea_)); subst ec_; clear en_))
          have GB14 := Aside0.mk gb14
          have GG14 := Aside0.mk HG14
          clear gb14 gl14 HG14
          obtain ⟨hx14_0, hf14_0⟩ := Kd.R_celln 0 HO_7.out (x14_1 : Int) p14 q14
          replace p14 := eq_true p14
          replace q14 := eq_true q14
          have HP16 := Kd.R_putn HO_7.out (x14_1 : Int) (Go.bits .xor .u8 (rd l0 x14_1) t106)
          rw [← Ny107.out] at HP16
          have HQ16 := Aside0.mk HP16
          clear HP16
          refine hK.out _ _ ⟨((HB.out.cell (World.block_lt_of_cell? w _ hw104_0)).trans hw104_0), ((HB.out.cell (World.block_lt_of_cell? w _ hw105_0)).trans hw105_0)⟩ (fun hHeld => ?_)
          clear hK K
          refine norm_ (a' := ?_) ?_ ?_
          rotate_left
          ·show Act.put _ (some 28) _ = _
           simp only [Act.put, List.setIfInBounds_toArray, List.set_cons_zero, List.set_cons_succ, i64_w, i32_w]
           rfl
          refine pure_ (i := 12) (N := some 29) (v := ?_) (a' := ?_) #[true, true, true, true, true, true, true, true, true, true, true, true, true, false, false] rfl rfl (any_of HT_.out (by kernel_rfl)) (fun _ _ _ h => h) (Or.inl ⟨by rfl, ?_⟩) ?_ ?_
          rotate_left
          ·intro w'
           go_simp
           with_reducible rfl
          rotate_left
          ·simp only [Act.put, List.setIfInBounds_toArray, List.set_cons_zero, List.set_cons_succ, i64_w, i32_w]
           rfl
          refine pure_ (i := 13) (N := some 30) (v := ?_) (a' := ?_) #[true, true, true, true, true, true, true, true, true, true, true, true, true, true, false] rfl rfl (any_of HT_.out (by kernel_rfl)) (fun _ _ _ h => h) (Or.inl ⟨by rfl, ?_⟩) ?_ ?_
          rotate_left
          ·intro w'
           go_simp
           with_reducible rfl
          rotate_left
          ·simp only [Act.put, List.setIfInBounds_toArray, List.set_cons_zero, List.set_cons_succ, i64_w, i32_w]
           rfl
          refine last_ (i := 14) (N := none) #[true, true, true, true, true, true, true, true, true, true, true, true, true, true, true] rfl rfl (one_of HT_.out (by kernel_rfl)) (by decide) (fun K hK => ?_)
          refine skip_ (w1 := ?_) (by rfl) rfl ?_ ?_
          rotate_left
          ·go_simp
           rfl
          refine hK.out _ _ ?_
          clear hK K
          refine done_ (done_of HT_.out (by kernel_rfl)) ?_
          try go_wp2
          go_roundg k1
          case measure => have := HK1.out; omega
          case rel => exact ⟨(y107), (wrap64 (x14_1 + 1)), (by first | rfl | (simp; done) | (simp [*]; done)), H', ⟨by have := HK1.out; omega⟩, ⟨by (with_reducible repeat (first | apply Kd.R_alloc | apply Kd.R_drewN | apply Kd.R_drew)); exact HQ16.out⟩, ⟨by repeat (first | (with_reducible first | exact HB.out | apply below_alloc | apply pw_below_drewN | apply below_drew1 | refine below_set ?_ GB14.out) | exact HB.out)⟩⟩
         ·rw [if_neg c13] at H
          exact absurd H (by simp)
        ·rw [if_neg c11] at H
         exact absurd H (by simp)
       ·rw [if_neg c10] at H
        exact absurd H (by simp)
      ·rw [if_neg c9] at H
       exact absurd H (by simp)
     ·rw [if_neg c8] at H
      have c8b0 : decide (x14_1 < (l0.length : Int)) = false := decide_eq_false c8
      clear c8
      obtain rfl := Option.some.inj H
      go_wp2
      go_ret
      exact ⟨_, by first | rfl | (simp [errW_none, errW_some] <;> rfl) | (simp [*, errW_none, errW_some] <;> rfl), by (with_reducible repeat (first | apply Kd.R_alloc | apply Kd.R_drewN | apply Kd.R_drew)); exact HO_7.out, by repeat (first | (with_reducible first | exact HB.out | apply below_alloc | apply pw_below_drewN | apply below_drew1) | exact HB.out)⟩
  ·rw [if_neg c5] at H
   exact absurd H (by simp)
 ·rw [if_neg c4] at H
  exact absurd H (by simp)

def geyserlaw07_Sources.l0 : Nat → List (List Int) → Int → Int → Option (Bool)
 | 0, _, _, _ => none
 | k + 1, x0, x5, x6 => if x6 < x5 then (if x6 ≥ 70 then (some false) else (if 0 ≤ x6 then (if x6 < (x0.length : Int) then (if ((rd_L1 x0 x6).length : Int) > 300 then (some false) else (geyserlaw07_Sources.l0 k x0 x5 (wrap64 (x6 + 1)))) else (none)) else (none))) else (some true)
def geyserlaw07_Sources.f (k : Nat) (l0 : List (List Int)) : Option (Bool) := geyserlaw07_Sources.l0 k l0 (l0.length : Int) 0
theorem geyserlaw07_Sources.mono_l : ∀ k, (∀ y0 y1 y2, LeO (geyserlaw07_Sources.l0 k y0 y1 y2) (geyserlaw07_Sources.l0 (k + 1) y0 y1 y2))
 | 0 => fun _ _ _ r h => by simp [geyserlaw07_Sources.l0] at h
 | k + 1 => by
  have ih0 := geyserlaw07_Sources.mono_l k
  ·intro y0 y1 y2
   unfold geyserlaw07_Sources.l0
   repeat' first
   | (with_reducible exact ih0 _ _ _)
   | (with_reducible exact LeO.refl _)
   | (with_reducible exact LeO.none _)
   | (with_reducible refine LeO.ite ?_ ?_)
   | (with_reducible refine LeO.bind ?_ (fun _ => ?_))
   | exact ih0 _ _ _
   | exact LeO.none _
   | refine LeO.ite ?_ ?_
   | refine LeO.bind ?_ (fun _ => ?_)
theorem geyserlaw07_Sources.mono : ∀ a0 k, LeO (geyserlaw07_Sources.f k a0) (geyserlaw07_Sources.f (k + 1) a0) := by
 intro a0 k
 have ih0 := geyserlaw07_Sources.mono_l k
 unfold geyserlaw07_Sources.f
 repeat' first
   | (with_reducible exact ih0 _ _ _)
   | (with_reducible exact LeO.refl _)
   | (with_reducible exact LeO.none _)
   | (with_reducible refine LeO.ite ?_ ?_)
   | (with_reducible refine LeO.bind ?_ (fun _ => ?_))
   | exact ih0 _ _ _
   | exact LeO.none _
   | refine LeO.ite ?_ ?_
   | refine LeO.bind ?_ (fun _ => ?_)
set_option maxHeartbeats 8000000 in
set_option maxRecDepth 100000 in
theorem geyserlaw07_Sources.calls (k : Nat) (A0 : Option Addr) (c0 : Nat) (l0 : List (List Int)) (r : Bool) (w : World) (hr0 : Kd.C (Kd.slice 5 (Kd.int .u8)) w A0 l0.length l0) (hc0 : l0.length ≤ c0) (h : geyserlaw07_Sources.f k l0 = some r) :
  Calls Try.prog 29 #[.slice A0 l0.length c0] w fun e w' => e = .returned (.bool r) ∧ Drawn0 w w' := by
 have HR0 := Aside0.mk hr0
 have HC0 := Aside0.mk hc0
 clear hr0 hc0
 have H : (geyserlaw07_Sources.l0 k l0 (l0.length : Int) 0) = some r := h
 clear h
 have H' := Aside0.mk H
 clear H
 go_enter Try.func29, Try.ntmps29
 go_wp2
 go_loopg [6] k (fun kq v6 w' => ∃ (x6_1 : Int), v6 = .int .i64 x6_1 ∧ Aside0 (geyserlaw07_Sources.l0 kq l0 (l0.length : Int) x6_1 = some r) ∧ Aside0 (kq ≤ k) ∧ Drawn0 w w')
 case atStart => exact ⟨(0), (by first | rfl | (simp; done) | (simp [*]; done)), H', ⟨Nat.le_refl _⟩, by repeat (first | exact Drawn0.refl _ | apply Drawn0.step)⟩
 case round =>
  clear H'
  obtain ⟨x6_1, rfl, HA, HK1, ⟨m1, rfl⟩⟩ := hrel
  cases gk with
  | zero => exact absurd HA.out (by simp [geyserlaw07_Sources.l0])
  | succ k1 =>
   have H := HA.out
   clear HA
   simp only [geyserlaw07_Sources.l0] at H
   by_cases c2 : x6_1 < (l0.length : Int)
   ·rw [if_pos c2] at H
    have c2b0 : decide (x6_1 < (l0.length : Int)) = true := decide_eq_true c2
    clear c2
    by_cases c3 : x6_1 ≥ 70
    ·rw [if_pos c3] at H
     have c3b0 : decide (70 ≤ x6_1) = true := decide_eq_true c3
     clear c3
     obtain rfl := Option.some.inj H
     go_wp2
     go_ret
     exact ⟨by first | rfl | (simp; done) | (simp [*]; done), by repeat (first | exact Drawn0.refl _ | apply Drawn0.step)⟩
    ·rw [if_neg c3] at H
     have c3b0 : decide (70 ≤ x6_1) = false := decide_eq_false c3
     clear c3
     by_cases c4 : 0 ≤ x6_1
     ·rw [if_pos c4] at H
      have c4b0 : decide (0 ≤ x6_1) = true := decide_eq_true c4
      clear c4
      by_cases c5 : x6_1 < (l0.length : Int)
      ·rw [if_pos c5] at H
       have c5b0 : decide (x6_1 < (l0.length : Int)) = true := decide_eq_true c5
       clear c5
       by_cases c6 : ((rd_L1 l0 x6_1).length : Int) > 300
       ·rw [if_pos c6] at H
        have c6b0 : decide (300 < ((rd_L1 l0 x6_1).length : Int)) = true := decide_eq_true c6
        have c6b1 : decide (300 < (rd_L1 l0 x6_1).length) = true := decide_eq_true (by omega)
        clear c6
        obtain rfl := Option.some.inj H
        have p108 : 0 ≤ (x6_1 : Int) := of_decide_eq_true (by first | (with_reducible assumption) | assumption)
        have q108 : x6_1 < (l0.length : Int) := of_decide_eq_true (by first | (with_reducible assumption) | assumption)
        obtain ⟨ad108, A108_0, c108_0, e108, hx108_0, hl108_0, hi108_0⟩ := at_L1 HR0.out x6_1 p108 q108
        cases e108
        have HR108_0 := Aside0.mk hi108_0
        have HC108_0 := Aside0.mk hl108_0
        clear hi108_0 hl108_0
        replace p108 := eq_true p108
        replace q108 := eq_true q108
        go_wp2
        go_ret
        exact ⟨by first | rfl | (simp; done) | (simp [*]; done), by repeat (first | exact Drawn0.refl _ | apply Drawn0.step)⟩
       ·rw [if_neg c6] at H
        have c6b0 : decide (300 < ((rd_L1 l0 x6_1).length : Int)) = false := decide_eq_false c6
        have c6b1 : decide (300 < (rd_L1 l0 x6_1).length) = false := decide_eq_false (by omega)
        clear c6
        have H' := Aside0.mk H
        clear H
        have p108 : 0 ≤ (x6_1 : Int) := of_decide_eq_true (by first | (with_reducible assumption) | assumption)
        have q108 : x6_1 < (l0.length : Int) := of_decide_eq_true (by first | (with_reducible assumption) | assumption)
        obtain ⟨ad108, A108_0, c108_0, e108, hx108_0, hl108_0, hi108_0⟩ := at_L1 HR0.out x6_1 p108 q108
        cases e108
        have HR108_0 := Aside0.mk hi108_0
        have HC108_0 := Aside0.mk hl108_0
        clear hi108_0 hl108_0
        replace p108 := eq_true p108
        replace q108 := eq_true q108
        go_wp2
        go_roundg k1
        case measure => have := HK1.out; omega
        case rel => exact ⟨(wrap64 (x6_1 + 1)), (by first | rfl | (simp; done) | (simp [*]; done)), H', ⟨by have := HK1.out; omega⟩, by repeat (first | exact Drawn0.refl _ | apply Drawn0.step)⟩
      ·rw [if_neg c5] at H
       exact absurd H (by simp)
     ·rw [if_neg c4] at H
      exact absurd H (by simp)
   ·rw [if_neg c2] at H
    have c2b0 : decide (x6_1 < (l0.length : Int)) = false := decide_eq_false c2
    clear c2
    obtain rfl := Option.some.inj H
    go_wp2
    go_ret
    exact ⟨by first | rfl | (simp; done) | (simp [*]; done), by repeat (first | exact Drawn0.refl _ | apply Drawn0.step)⟩

-- given: function 54 (vector_Axpy)

def precode_wrong.f (a0 : Int) : Option (Bool) := if a0 < 1 then (some true) else (some (decide (a0 > 64)))
set_option maxHeartbeats 8000000 in
set_option maxRecDepth 100000 in
theorem precode_wrong.calls (a0 : Int) (r : Bool) (w : World) (h : precode_wrong.f a0 = some r) :
  Calls Try.prog 81 #[.int .i64 a0] w fun e w' => e = .returned (.bool r) ∧ Drawn0 w w' := by
 have H : (if a0 < 1 then (some true) else (some (decide (a0 > 64)))) = some r := h
 clear h
 by_cases c2 : a0 < 1
 ·rw [if_pos c2] at H
  have c2b0 : decide (a0 < 1) = true := decide_eq_true c2
  clear c2
  obtain rfl := Option.some.inj H
  go_enter Try.func81, Try.ntmps81
  go_wp2
  go_ret
  exact ⟨by first | rfl | (simp; done) | (simp [*]; done), by repeat (first | exact Drawn0.refl _ | apply Drawn0.step)⟩
 ·rw [if_neg c2] at H
  have c2b0 : decide (a0 < 1) = false := decide_eq_false c2
  clear c2
  obtain rfl := Option.some.inj H
  go_enter Try.func81, Try.ntmps81
  go_wp2
  go_ret
  exact ⟨by first | rfl | (simp; done) | (simp [*]; done), by repeat (first | exact Drawn0.refl _ | apply Drawn0.step)⟩

end Go.Proofs.Ytcmigmldecacpaa.QEncodeSums
