/- Machine-made by a program of this claim: functions of the Go program as Lean functions, and that its calls do what these say. Lean checks it. -/
import Derived.Test.YtcmigmldecacpaaZQEncodeSumsx0
import Derived.Test.YtcmigmldecacpaaZQEncodeSumsx1
import Derived.Test.YtcmigmldecacpaaZQEncodeSumsx8
import Derived.Test.YtcmigmldecacpaaZGiv
import Derived.Test.YtcmigmldecacpaaZGivFill
import Derived.Test.YtcmigmldecacpaaZGivPicks
import Derived.Test.YtcmigmldecacpaaZGivSClone
namespace Go.Proofs.Ytcmigmldecacpaa.QEncodeSums
open Go.RowKit Go.Proofs.YtcmigmldecacpaaW.PrintWords Go.Proofs.YtcmigmldecacpaaW.PrintLast Go.Proofs.YtcmigmldecacpaaW.PrintMore Go.Proofs.Ytcmigmldecacpaa.Giv
attribute [local go_sem] max2_int min2_int max_two min_two max_three min_three max_four min_four   -- for this text's walks alone
set_option linter.unusedVariables false
set_option linter.unusedSimpArgs false

def geyserref03_Degree.j0 : Nat → Int → Int → Option (Int)
 | 0, _, _ => none
 | k + 1, x1, x5 => if x5 > x1 then (if x1 < 1 then (some 1) else (some x1)) else (if x5 < 1 then (some 1) else (some x5))
def geyserref03_Degree.f (k : Nat) (a0 : Int) (a1 : Int) : Option (Int) := if a0 < 16 then (geyserref03_Degree.j0 k a1 1) else (if a0 < 528 then (geyserref03_Degree.j0 k a1 2) else (if a0 < 696 then (geyserref03_Degree.j0 k a1 3) else (if a0 < 780 then (geyserref03_Degree.j0 k a1 4) else (if a0 < 860 then (geyserref03_Degree.j0 k a1 6) else (if a0 < 930 then (geyserref03_Degree.j0 k a1 10) else (if a0 < 980 then (geyserref03_Degree.j0 k a1 18) else (geyserref03_Degree.j0 k a1 34)))))))
theorem geyserref03_Degree.mono_l : ∀ k, (∀ y0 y1, LeO (geyserref03_Degree.j0 k y0 y1) (geyserref03_Degree.j0 (k + 1) y0 y1))
 | 0 => fun _ _ r h => by simp [geyserref03_Degree.j0] at h
 | k + 1 => by
  have ih0 := geyserref03_Degree.mono_l k
  ·intro y0 y1
   unfold geyserref03_Degree.j0
   repeat' first
   | (with_reducible exact ih0 _ _)
   | (with_reducible exact LeO.refl _)
   | (with_reducible exact LeO.none _)
   | (with_reducible refine LeO.ite ?_ ?_)
   | (with_reducible refine LeO.bind ?_ (fun _ => ?_))
   | exact ih0 _ _
   | exact LeO.none _
   | refine LeO.ite ?_ ?_
   | refine LeO.bind ?_ (fun _ => ?_)
theorem geyserref03_Degree.mono : ∀ a0 a1 k, LeO (geyserref03_Degree.f k a0 a1) (geyserref03_Degree.f (k + 1) a0 a1) := by
 intro a0 a1 k
 have ih0 := geyserref03_Degree.mono_l k
 unfold geyserref03_Degree.f
 repeat' first
   | (with_reducible exact ih0 _ _)
   | (with_reducible exact LeO.refl _)
   | (with_reducible exact LeO.none _)
   | (with_reducible refine LeO.ite ?_ ?_)
   | (with_reducible refine LeO.bind ?_ (fun _ => ?_))
   | exact ih0 _ _
   | exact LeO.none _
   | refine LeO.ite ?_ ?_
   | refine LeO.bind ?_ (fun _ => ?_)
set_option maxHeartbeats 8000000 in
set_option maxRecDepth 100000 in
theorem geyserref03_Degree.calls (k : Nat) (a0 : Int) (a1 : Int) (r : Int) (w : World) (h : geyserref03_Degree.f k a0 a1 = some r) :
  Calls Try.prog 94 #[.int .u64 a0, .int .i64 a1] w fun e w' => e = .returned (.int .i64 r) ∧ Drawn0 w w' := by
 have H : (if a0 < 16 then (geyserref03_Degree.j0 k a1 1) else (if a0 < 528 then (geyserref03_Degree.j0 k a1 2) else (if a0 < 696 then (geyserref03_Degree.j0 k a1 3) else (if a0 < 780 then (geyserref03_Degree.j0 k a1 4) else (if a0 < 860 then (geyserref03_Degree.j0 k a1 6) else (if a0 < 930 then (geyserref03_Degree.j0 k a1 10) else (if a0 < 980 then (geyserref03_Degree.j0 k a1 18) else (geyserref03_Degree.j0 k a1 34)))))))) = some r := h
 clear h
 have HC3 := Aside0.mk H
 clear H
 go_enter Try.func94, Try.ntmps94
 go_upto_block 0 with (fail)
 go_cut [5] (fun v5 wc => ∃ (kq : Nat) (x5_2 : Int), v5 = .int .i64 x5_2 ∧ Aside0 (geyserref03_Degree.j0 kq a1 x5_2 = some r) ∧ Aside0 (kq ≤ k) ∧ Drawn0 w wc)
 case first =>
  have H := HC3.out
  clear HC3
  by_cases c4 : a0 < 16
  ·rw [if_pos c4] at H
   have c4b0 : decide (a0 < 16) = true := decide_eq_true c4
   clear c4
   (first | rw [c4b0] | (simp only [i64_w, i32_w]; rw [c4b0]) | skip)
   have H' := Aside0.mk H
   clear H
   go_wp2
   go_meet
   case rel => exact ⟨_, (1), (by first | rfl | (simp; done) | (simp [*]; done)), H', ⟨by first | omega | exact Nat.le_refl _⟩, by repeat (first | exact Drawn0.refl _ | apply Drawn0.step)⟩
  ·rw [if_neg c4] at H
   have c4b0 : decide (a0 < 16) = false := decide_eq_false c4
   clear c4
   (first | rw [c4b0] | (simp only [i64_w, i32_w]; rw [c4b0]) | skip)
   by_cases c5 : a0 < 528
   ·rw [if_pos c5] at H
    have c5b0 : decide (a0 < 528) = true := decide_eq_true c5
    clear c5
    have H' := Aside0.mk H
    clear H
    go_wp2
    go_meet
    case rel => exact ⟨_, (2), (by first | rfl | (simp; done) | (simp [*]; done)), H', ⟨by first | omega | exact Nat.le_refl _⟩, by repeat (first | exact Drawn0.refl _ | apply Drawn0.step)⟩
   ·rw [if_neg c5] at H
    have c5b0 : decide (a0 < 528) = false := decide_eq_false c5
    clear c5
    by_cases c6 : a0 < 696
    ·rw [if_pos c6] at H
     have c6b0 : decide (a0 < 696) = true := decide_eq_true c6
     clear c6
     have H' := Aside0.mk H
     clear H
     go_wp2
     go_meet
     case rel => exact ⟨_, (3), (by first | rfl | (simp; done) | (simp [*]; done)), H', ⟨by first | omega | exact Nat.le_refl _⟩, by repeat (first | exact Drawn0.refl _ | apply Drawn0.step)⟩
    ·rw [if_neg c6] at H
     have c6b0 : decide (a0 < 696) = false := decide_eq_false c6
     clear c6
     by_cases c7 : a0 < 780
     ·rw [if_pos c7] at H
      have c7b0 : decide (a0 < 780) = true := decide_eq_true c7
      clear c7
      have H' := Aside0.mk H
      clear H
      go_wp2
      go_meet
      case rel => exact ⟨_, (4), (by first | rfl | (simp; done) | (simp [*]; done)), H', ⟨by first | omega | exact Nat.le_refl _⟩, by repeat (first | exact Drawn0.refl _ | apply Drawn0.step)⟩
     ·rw [if_neg c7] at H
      have c7b0 : decide (a0 < 780) = false := decide_eq_false c7
      clear c7
      by_cases c8 : a0 < 860
      ·rw [if_pos c8] at H
       have c8b0 : decide (a0 < 860) = true := decide_eq_true c8
       clear c8
       have H' := Aside0.mk H
       clear H
       go_wp2
       go_meet
       case rel => exact ⟨_, (6), (by first | rfl | (simp; done) | (simp [*]; done)), H', ⟨by first | omega | exact Nat.le_refl _⟩, by repeat (first | exact Drawn0.refl _ | apply Drawn0.step)⟩
      ·rw [if_neg c8] at H
       have c8b0 : decide (a0 < 860) = false := decide_eq_false c8
       clear c8
       by_cases c9 : a0 < 930
       ·rw [if_pos c9] at H
        have c9b0 : decide (a0 < 930) = true := decide_eq_true c9
        clear c9
        have H' := Aside0.mk H
        clear H
        go_wp2
        go_meet
        case rel => exact ⟨_, (10), (by first | rfl | (simp; done) | (simp [*]; done)), H', ⟨by first | omega | exact Nat.le_refl _⟩, by repeat (first | exact Drawn0.refl _ | apply Drawn0.step)⟩
       ·rw [if_neg c9] at H
        have c9b0 : decide (a0 < 930) = false := decide_eq_false c9
        clear c9
        by_cases c10 : a0 < 980
        ·rw [if_pos c10] at H
         have c10b0 : decide (a0 < 980) = true := decide_eq_true c10
         clear c10
         have H' := Aside0.mk H
         clear H
         go_wp2
         go_meet
         case rel => exact ⟨_, (18), (by first | rfl | (simp; done) | (simp [*]; done)), H', ⟨by first | omega | exact Nat.le_refl _⟩, by repeat (first | exact Drawn0.refl _ | apply Drawn0.step)⟩
        ·rw [if_neg c10] at H
         have c10b0 : decide (a0 < 980) = false := decide_eq_false c10
         clear c10
         have H' := Aside0.mk H
         clear H
         go_wp2
         go_meet
         case rel => exact ⟨_, (34), (by first | rfl | (simp; done) | (simp [*]; done)), H', ⟨by first | omega | exact Nat.le_refl _⟩, by repeat (first | exact Drawn0.refl _ | apply Drawn0.step)⟩
 case rest =>
  clear HC3
  try clear c1
  try clear p2
  try clear c4
  try clear c4b0
  try clear c5
  try clear c5b0
  try clear c6
  try clear c6b0
  try clear c7
  try clear c7b0
  try clear c8
  try clear c8b0
  try clear c9
  try clear c9b0
  try clear c10
  try clear c10b0
  obtain ⟨kq, x5_2, rfl, HA, HJ2, ⟨mc2, rfl⟩⟩ := hcut
  cases kq with
  | zero => exact absurd HA.out (by simp [geyserref03_Degree.j0])
  | succ kj2 =>
   have H := HA.out
   clear HA
   simp only [geyserref03_Degree.j0] at H
   by_cases c11 : x5_2 > a1
   ·rw [if_pos c11] at H
    have c11b0 : decide (a1 < x5_2) = true := decide_eq_true c11
    clear c11
    by_cases c12 : a1 < 1
    ·rw [if_pos c12] at H
     have c12b0 : decide (a1 < 1) = true := decide_eq_true c12
     clear c12
     obtain rfl := Option.some.inj H
     go_wp2
     go_ret
     exact ⟨by first | rfl | (simp; done) | (simp [*]; done), by repeat (first | exact Drawn0.refl _ | apply Drawn0.step)⟩
    ·rw [if_neg c12] at H
     have c12b0 : decide (a1 < 1) = false := decide_eq_false c12
     clear c12
     obtain rfl := Option.some.inj H
     go_wp2
     go_ret
     exact ⟨by first | rfl | (simp; done) | (simp [*]; done), by repeat (first | exact Drawn0.refl _ | apply Drawn0.step)⟩
   ·rw [if_neg c11] at H
    have c11b0 : decide (a1 < x5_2) = false := decide_eq_false c11
    clear c11
    by_cases c13 : x5_2 < 1
    ·rw [if_pos c13] at H
     have c13b0 : decide (x5_2 < 1) = true := decide_eq_true c13
     clear c13
     obtain rfl := Option.some.inj H
     go_wp2
     go_ret
     exact ⟨by first | rfl | (simp; done) | (simp [*]; done), by repeat (first | exact Drawn0.refl _ | apply Drawn0.step)⟩
    ·rw [if_neg c13] at H
     have c13b0 : decide (x5_2 < 1) = false := decide_eq_false c13
     clear c13
     obtain rfl := Option.some.inj H
     go_wp2
     go_ret
     exact ⟨by first | rfl | (simp; done) | (simp [*]; done), by repeat (first | exact Drawn0.refl _ | apply Drawn0.step)⟩

mutual
def geyserref03_Picks.l0 : Nat → Int → Int → List Int → Int → Int → Option (List Int)
 | 0, _, _, _, _, _ => none
 | k + 1, x5, x6, x7, x24, x25 => if x25 < x24 then ((geyserref03_Next.f x6).bind fun t313 => (if (IntKind.u64.wrap (x5)) = 0 then (none) else (geyserref03_Picks.l1 k x5 t313 x7 (wrap64 (Int.tmod t313 (IntKind.u64.wrap (x5)))) x24 x25))) else (some x7)
def geyserref03_Picks.l1 : Nat → Int → Int → List Int → Int → Int → Int → Option (List Int)
 | 0, _, _, _, _, _, _ => none
 | k + 1, x5, x6, x7, x8, x24, x25 => if 0 ≤ x8 then (if x8 < (x7.length : Int) then (if (rd x7 x8) = 0 then ((geyserref03_Next.f x6).bind fun t315 => (geyserref03_Picks.l0 k x5 t315 (x7.set (x8 : Int).toNat ((IntKind.u64.wrap (1 + (Int.tmod t315 255))) % 256)) x24 (wrap64 (x25 + 1)))) else (if x5 = 0 then (none) else (geyserref03_Picks.l1 k x5 x6 x7 (Int.tmod (wrap64 (x8 + 1)) x5) x24 x25))) else (none)) else (none)
end
def geyserref03_Picks.f (k : Nat) (a0 : Int) (a1 : Int) : Option (List Int) := (geyserref03_Parities.f k a0).bind fun t303 => ((geyserref03_Seed.f a0 a1).bind fun t306 => ((geyserref03_Begin.f t306).bind fun t307 => ((geyserref03_Next.f t307).bind fun t308 => (if 0 ≤ (wrap64 (a0 + (t303.length : Int))) then (if (wrap64 (a0 + (t303.length : Int)) : Int).toNat ≤ 281474976710656 then ((geyserref03_Degree.f k (Int.tmod t308 1024) (wrap64 (a0 + (t303.length : Int)))).bind fun t312 => (geyserref03_Picks.l0 k (wrap64 (a0 + (t303.length : Int))) t308 (List.replicate (wrap64 (a0 + (t303.length : Int)) : Int).toNat 0) t312 0)) else (none)) else (none)))))
theorem geyserref03_Picks.mono_l : ∀ k, (∀ y0 y1 y2 y3 y4, LeO (geyserref03_Picks.l0 k y0 y1 y2 y3 y4) (geyserref03_Picks.l0 (k + 1) y0 y1 y2 y3 y4)) ∧ (∀ y0 y1 y2 y3 y4 y5, LeO (geyserref03_Picks.l1 k y0 y1 y2 y3 y4 y5) (geyserref03_Picks.l1 (k + 1) y0 y1 y2 y3 y4 y5))
 | 0 => ⟨fun _ _ _ _ _ r h => by simp [geyserref03_Picks.l0] at h, fun _ _ _ _ _ _ r h => by simp [geyserref03_Picks.l1] at h⟩
 | k + 1 => by
  obtain ⟨ih0, ih1⟩ := geyserref03_Picks.mono_l k
  refine ⟨?_, ?_⟩
  ·intro y0 y1 y2 y3 y4
   unfold geyserref03_Picks.l0
   repeat' first
   | (with_reducible exact ih0 _ _ _ _ _)
   | (with_reducible exact ih1 _ _ _ _ _ _)
   | (with_reducible exact geyserref03_Degree.mono _ _ _)
   | (with_reducible exact geyserref03_Parities.mono _ _)
   | (with_reducible exact LeO.refl _)
   | (with_reducible exact LeO.none _)
   | (with_reducible refine LeO.ite ?_ ?_)
   | (with_reducible refine LeO.bind ?_ (fun _ => ?_))
   | exact ih0 _ _ _ _ _
   | exact ih1 _ _ _ _ _ _
   | exact geyserref03_Degree.mono _ _ _
   | exact geyserref03_Parities.mono _ _
   | exact LeO.none _
   | refine LeO.ite ?_ ?_
   | refine LeO.bind ?_ (fun _ => ?_)
  ·intro y0 y1 y2 y3 y4 y5
   unfold geyserref03_Picks.l1
   repeat' first
   | (with_reducible exact ih0 _ _ _ _ _)
   | (with_reducible exact ih1 _ _ _ _ _ _)
   | (with_reducible exact geyserref03_Degree.mono _ _ _)
   | (with_reducible exact geyserref03_Parities.mono _ _)
   | (with_reducible exact LeO.refl _)
   | (with_reducible exact LeO.none _)
   | (with_reducible refine LeO.ite ?_ ?_)
   | (with_reducible refine LeO.bind ?_ (fun _ => ?_))
   | exact ih0 _ _ _ _ _
   | exact ih1 _ _ _ _ _ _
   | exact geyserref03_Degree.mono _ _ _
   | exact geyserref03_Parities.mono _ _
   | exact LeO.none _
   | refine LeO.ite ?_ ?_
   | refine LeO.bind ?_ (fun _ => ?_)
theorem geyserref03_Picks.mono : ∀ a0 a1 k, LeO (geyserref03_Picks.f k a0 a1) (geyserref03_Picks.f (k + 1) a0 a1) := by
 intro a0 a1 k
 obtain ⟨ih0, ih1⟩ := geyserref03_Picks.mono_l k
 unfold geyserref03_Picks.f
 repeat' first
   | (with_reducible exact ih0 _ _ _ _ _)
   | (with_reducible exact ih1 _ _ _ _ _ _)
   | (with_reducible exact geyserref03_Degree.mono _ _ _)
   | (with_reducible exact geyserref03_Parities.mono _ _)
   | (with_reducible exact LeO.refl _)
   | (with_reducible exact LeO.none _)
   | (with_reducible refine LeO.ite ?_ ?_)
   | (with_reducible refine LeO.bind ?_ (fun _ => ?_))
   | exact ih0 _ _ _ _ _
   | exact ih1 _ _ _ _ _ _
   | exact geyserref03_Degree.mono _ _ _
   | exact geyserref03_Parities.mono _ _
   | exact LeO.none _
   | refine LeO.ite ?_ ?_
   | refine LeO.bind ?_ (fun _ => ?_)
set_option maxHeartbeats 8000000 in
set_option maxRecDepth 100000 in
theorem geyserref03_Picks.calls (k : Nat) (a0 : Int) (a1 : Int) (r : List Int) (w : World) (h : geyserref03_Picks.f k a0 a1 = some r) :
  Calls Try.prog 77 #[.int .i64 a0, .int .u32 a1] w fun e w' => ∃ v0_ : Value, e = .returned (v0_) ∧ Kd.R (Kd.int .u8) 5 w' w.heap.size (fun _ => True) v0_ r ∧ Below w.heap.size w w' := by
 have HB := Aside0.mk (Below.refl w.heap.size w)
 have H : ((geyserref03_Parities.f k a0).bind fun t303 => ((geyserref03_Seed.f a0 a1).bind fun t306 => ((geyserref03_Begin.f t306).bind fun t307 => ((geyserref03_Next.f t307).bind fun t308 => (if 0 ≤ (wrap64 (a0 + (t303.length : Int))) then (if (wrap64 (a0 + (t303.length : Int)) : Int).toNat ≤ 281474976710656 then ((geyserref03_Degree.f k (Int.tmod t308 1024) (wrap64 (a0 + (t303.length : Int)))).bind fun t312 => (geyserref03_Picks.l0 k (wrap64 (a0 + (t303.length : Int))) t308 (List.replicate (wrap64 (a0 + (t303.length : Int)) : Int).toNat 0) t312 0)) else (none)) else (none)))))) = some r := h
 clear h
 replace H := Option.bind_eq_some_iff.mp H
 obtain ⟨t303, A30, H⟩ := H
 replace H : ((geyserref03_Seed.f a0 a1).bind fun t306 => ((geyserref03_Begin.f t306).bind fun t307 => ((geyserref03_Next.f t307).bind fun t308 => (if 0 ≤ (wrap64 (a0 + (t303.length : Int))) then (if (wrap64 (a0 + (t303.length : Int)) : Int).toNat ≤ 281474976710656 then ((geyserref03_Degree.f k (Int.tmod t308 1024) (wrap64 (a0 + (t303.length : Int)))).bind fun t312 => (geyserref03_Picks.l0 k (wrap64 (a0 + (t303.length : Int))) t308 (List.replicate (wrap64 (a0 + (t303.length : Int)) : Int).toNat 0) t312 0)) else (none)) else (none))))) = some r := H
 have A3 := Aside0.mk A30
 clear A30
 replace H := Option.bind_eq_some_iff.mp H
 obtain ⟨t306, A40, H⟩ := H
 replace H : ((geyserref03_Begin.f t306).bind fun t307 => ((geyserref03_Next.f t307).bind fun t308 => (if 0 ≤ (wrap64 (a0 + (t303.length : Int))) then (if (wrap64 (a0 + (t303.length : Int)) : Int).toNat ≤ 281474976710656 then ((geyserref03_Degree.f k (Int.tmod t308 1024) (wrap64 (a0 + (t303.length : Int)))).bind fun t312 => (geyserref03_Picks.l0 k (wrap64 (a0 + (t303.length : Int))) t308 (List.replicate (wrap64 (a0 + (t303.length : Int)) : Int).toNat 0) t312 0)) else (none)) else (none)))) = some r := H
 have A4 := Aside0.mk A40
 clear A40
 replace H := Option.bind_eq_some_iff.mp H
 obtain ⟨t307, A50, H⟩ := H
 replace H : ((geyserref03_Next.f t307).bind fun t308 => (if 0 ≤ (wrap64 (a0 + (t303.length : Int))) then (if (wrap64 (a0 + (t303.length : Int)) : Int).toNat ≤ 281474976710656 then ((geyserref03_Degree.f k (Int.tmod t308 1024) (wrap64 (a0 + (t303.length : Int)))).bind fun t312 => (geyserref03_Picks.l0 k (wrap64 (a0 + (t303.length : Int))) t308 (List.replicate (wrap64 (a0 + (t303.length : Int)) : Int).toNat 0) t312 0)) else (none)) else (none))) = some r := H
 have A5 := Aside0.mk A50
 clear A50
 replace H := Option.bind_eq_some_iff.mp H
 obtain ⟨t308, A60, H⟩ := H
 replace H : (if 0 ≤ (wrap64 (a0 + (t303.length : Int))) then (if (wrap64 (a0 + (t303.length : Int)) : Int).toNat ≤ 281474976710656 then ((geyserref03_Degree.f k (Int.tmod t308 1024) (wrap64 (a0 + (t303.length : Int)))).bind fun t312 => (geyserref03_Picks.l0 k (wrap64 (a0 + (t303.length : Int))) t308 (List.replicate (wrap64 (a0 + (t303.length : Int)) : Int).toNat 0) t312 0)) else (none)) else (none)) = some r := H
 have A6 := Aside0.mk A60
 clear A60
 obtain ⟨ji7, hji7⟩ : ∃ j_ : Int, (wrap64 (a0 + (t303.length : Int))) = j_ := ⟨_, rfl⟩
 replace H : (if 0 ≤ (ji7) then (if (ji7 : Int).toNat ≤ 281474976710656 then ((geyserref03_Degree.f k (Int.tmod t308 1024) (ji7)).bind fun t312 => (geyserref03_Picks.l0 k ji7 t308 (List.replicate (ji7 : Int).toNat 0) t312 0)) else (none)) else (none)) = some r := by first | (rw [hji7] at H; exact H) | (simp only [hji7] at H ⊢; exact H)
 (try rw [hji7] at A3)
 (try rw [hji7] at A4)
 (try rw [hji7] at A5)
 (try rw [hji7] at A6)
 have hji7w : (IntKind.i64.wrap (a0 + (t303.length : Int))) = ji7 := (i64_w _).trans hji7
 by_cases c8 : 0 ≤ (ji7)
 ·rw [if_pos c8] at H
  have c8b0 := eq_true c8
  have c8b1 : decide (0 ≤ (ji7)) = true := decide_eq_true c8
  clear c8
  by_cases c9 : (ji7 : Int).toNat ≤ 281474976710656
  ·rw [if_pos c9] at H
   have c9b0 := eq_true c9
   have c9b1 : decide ((ji7 : Int).toNat ≤ 281474976710656) = true := decide_eq_true c9
   clear c9
   obtain ⟨y309, hy309⟩ : ∃ y_ : List Int, y_ = (List.replicate (ji7 : Int).toNat 0) := ⟨_, rfl⟩
   replace H : ((geyserref03_Degree.f k (Int.tmod t308 1024) (ji7)).bind fun t312 => (geyserref03_Picks.l0 k ji7 t308 y309 t312 0)) = some r := by first | (rw [hy309]; with_reducible exact H) | (have H2_ := (Option.bind_some _ _).symm.trans H; rw [hy309]; with_reducible exact H2_) | (have H2_ := (Option.bind_some _ _).symm.trans H; with_reducible exact H2_) | with_reducible exact H | (rw [hy309]; exact H) | exact H
   have Ny309 := Aside0.mk hy309
   clear hy309
   replace H := Option.bind_eq_some_iff.mp H
   obtain ⟨t312, A100, H⟩ := H
   replace H : (geyserref03_Picks.l0 k ji7 t308 y309 t312 0) = some r := H
   have A10 := Aside0.mk A100
   clear A100
   have H' := Aside0.mk H
   clear H
   go_enter Try.func77, Try.ntmps77
   go_wp2_with (first | ((with_reducible refine gate_callee (f := 32) rfl ?_); refine goesL_ (some 11) rfl rfl Try.func32 (by kernel_rfl) rfl #[.int .i64 a0] rfl (by (try simp only [List.map_toArray, List.map_cons, List.map_nil]); first | done | rfl | (simp only [List.length_drop, List.length_take]; rfl)) ?_; (with_reducible refine (geyserref03_Parities.calls k a0 t303 _ A3.out).mono ?_); rintro e w11 ⟨v304, rfl, ho0, hb⟩; refine ⟨_, rfl, ?_⟩; have n0_ := Aside0.mk (Kd.S_lower ho0 (below_size (by repeat (first | (with_reducible first | exact HB.out | apply below_alloc | apply pw_below_drewN | apply below_drew1) | exact HB.out)))); have n1_ := Aside0.mk (below_step (by repeat (first | (with_reducible first | exact HB.out | apply below_alloc | apply pw_below_drewN | apply below_drew1) | exact HB.out)) hb); clear HB; have HO305 := n0_; have HB := n1_; clear n0_ n1_; (try clear hb); (try clear hb2); (try clear hk); (try clear hi); (try clear ho0); obtain ⟨Ao12, co12, eo12⟩ := Kd.S_slice HO305.out; subst eo12) | ((with_reducible refine gate_callee (f := 93) rfl ?_); refine goesL_ (some 16) rfl rfl Try.func93 (by kernel_rfl) rfl #[.int .i64 a0, .int .u32 a1] rfl (by (try simp only [List.map_toArray, List.map_cons, List.map_nil]); first | done | rfl | (simp only [List.length_drop, List.length_take]; rfl)) ?_; (with_reducible refine (geyserref03_Seed.calls a0 a1 t306 _ A4.out).mono ?_); rintro e w' ⟨rfl, ⟨nd, rfl⟩⟩; refine ⟨_, rfl, ?_⟩) | ((with_reducible refine gate_callee (f := 92) rfl ?_); refine goesL_ (some 17) rfl rfl Try.func92 (by kernel_rfl) rfl #[.int .u32 t306] rfl (by (try simp only [List.map_toArray, List.map_cons, List.map_nil]); first | done | rfl | (simp only [List.length_drop, List.length_take]; rfl)) ?_; (with_reducible refine (geyserref03_Begin.calls t306 t307 _ A5.out).mono ?_); rintro e w' ⟨rfl, ⟨nd, rfl⟩⟩; refine ⟨_, rfl, ?_⟩) | ((with_reducible refine gate_callee (f := 91) rfl ?_); refine goesL_ (some 18) rfl rfl Try.func91 (by kernel_rfl) rfl #[.int .u64 t307] rfl (by (try simp only [List.map_toArray, List.map_cons, List.map_nil]); first | done | rfl | (simp only [List.length_drop, List.length_take]; rfl)) ?_; (with_reducible refine (geyserref03_Next.calls t307 t308 _ A6.out).mono ?_); rintro e w' ⟨rfl, ⟨nd, rfl⟩⟩; refine ⟨_, rfl, ?_⟩) | ((with_reducible refine gate_dst (N := 20) rfl ?_); refine Kd.R_make (Kd.int .u8) _ 5 rfl (N := 20) rfl 31 _ _ rfl ji7 rfl rfl Try.underlying31 (.int .u8 0) 1 info5 rfl (by decide) (by omega) 0 (ok := fun _ => True) (okp := fun _ => True) rfl (fun _ hk => hk) trivial (of_decide_eq_true (by first | (with_reducible assumption) | assumption)) (Nat.le_trans (Nat.mul_le_mul_right _ (of_decide_eq_true (by first | (with_reducible assumption) | assumption) : ji7.toNat ≤ 281474976710656)) (by omega)) (Below.refl _ _) (Nat.le_refl _) ?_; intro v310 w13 ho14 hb hg_ hnew_; clear hg_ hnew_; (first | rw [← Ny309.out] at ho14 | (simp only [Int.reduceToNat] at ho14; rw [← Ny309.out] at ho14)); have n0_ := Aside0.mk (Kd.S_elder' (by (with_reducible repeat (first | apply Kd.S_alloc | apply Kd.S_drewN | apply Kd.S_drew)); exact HO305.out) (Kd.R_base ho14) hb); have n1_ := Aside0.mk (Kd.R_lower ho14 (below_size (by repeat (first | (with_reducible first | exact HB.out | apply below_alloc | apply pw_below_drewN | apply below_drew1) | exact HB.out)))); have n2_ := Aside0.mk (below_step (by repeat (first | (with_reducible first | exact HB.out | apply below_alloc | apply pw_below_drewN | apply below_drew1) | exact HB.out)) hb); clear HO305; clear HB; have HO305 := n0_; have HO311 := n1_; have HB := n2_; clear n0_ n1_ n2_; clear hb ho14) | ((with_reducible refine gate_callee (f := 94) rfl ?_); refine goesL_ (some 24) rfl rfl Try.func94 (by kernel_rfl) rfl #[.int .u64 (Int.tmod t308 1024), .int .i64 ji7] rfl (by (try simp only [List.map_toArray, List.map_cons, List.map_nil]); first | done | (simp only [hji7]; rfl) | rfl | (simp only [List.length_drop, List.length_take]; rfl)) ?_; (with_reducible refine (geyserref03_Degree.calls k (Int.tmod t308 1024) ji7 t312 _ A10.out).mono ?_); rintro e w' ⟨rfl, ⟨nd, rfl⟩⟩; refine ⟨_, rfl, ?_⟩))
   go_loopg [6, 25] k (fun kq v6 v25 w' => ∃ (x6_1 : Int) (x7_1 : List Int) (x25_1 : Int), v6 = .int .u64 x6_1 ∧ v25 = .int .i64 x25_1 ∧ Aside0 (geyserref03_Picks.l0 kq ji7 x6_1 x7_1 t312 x25_1 = some r) ∧ Aside0 (kq ≤ k) ∧ Aside0 (Kd.R (Kd.int .u8) 5 w' w.heap.size (fun _ => True) v310 x7_1) ∧ Aside0 (Below w.heap.size w w'))
   case atStart => exact ⟨(t308), (y309), (0), (by first | rfl | (simp; done) | (simp [*]; done)), (by first | rfl | (simp; done) | (simp [*]; done)), H', ⟨Nat.le_refl _⟩, ⟨by (with_reducible repeat (first | apply Kd.R_alloc | apply Kd.R_drewN | apply Kd.R_drew)); exact HO311.out⟩, ⟨by repeat (first | (with_reducible first | exact HB.out | apply below_alloc | apply pw_below_drewN | apply below_drew1) | exact HB.out)⟩⟩
   case round =>
    clear H'
    try clear p2
    try clear c3
    try clear p6
    try clear c7
    try clear c8
    try clear c8b0
    try clear c8b1
    try clear c9
    try clear c9b0
    try clear c9b1
    obtain ⟨x6_1, x7_1, x25_1, rfl, rfl, HA, HK1, HO_7, HB⟩ := hrel
    cases gk with
    | zero => exact absurd HA.out (by simp [geyserref03_Picks.l0])
    | succ k1 =>
     have H := HA.out
     clear HA
     simp only [geyserref03_Picks.l0] at H
     by_cases c15 : x25_1 < t312
     ·rw [if_pos c15] at H
      have c15b0 : decide (x25_1 < t312) = true := decide_eq_true c15
      clear c15
      replace H := Option.bind_eq_some_iff.mp H
      obtain ⟨t313, A160, H⟩ := H
      replace H : (if (IntKind.u64.wrap (ji7)) = 0 then (none) else (geyserref03_Picks.l1 k1 ji7 t313 x7_1 (wrap64 (Int.tmod t313 (IntKind.u64.wrap (ji7)))) t312 x25_1)) = some r := H
      have A16 := Aside0.mk A160
      clear A160
      by_cases c17 : (IntKind.u64.wrap (ji7)) = 0
      ·rw [if_pos c17] at H
       exact absurd H (by simp)
      ·rw [if_neg c17] at H
       have c17b0 : ((IntKind.u64.wrap (ji7)) == 0) = false := beq_eq_false_iff_ne.mpr c17
       have c17b1 : ((IntKind.u64.wrap (ji7)) != 0) = true := bne_iff_ne.mpr c17
       have H' := Aside0.mk H
       clear H
       go_wp2_with (first | ((with_reducible refine gate_callee (f := 91) rfl ?_); refine goesL_ (some 28) rfl rfl Try.func91 (by kernel_rfl) rfl #[.int .u64 x6_1] rfl (by (try simp only [List.map_toArray, List.map_cons, List.map_nil]); first | done | rfl | (simp only [List.length_drop, List.length_take]; rfl)) ?_; (with_reducible refine (geyserref03_Next.calls x6_1 t313 _ A16.out).mono ?_); rintro e w' ⟨rfl, ⟨nd, rfl⟩⟩; refine ⟨_, rfl, ?_⟩))
       go_loopg [8] k1 (fun kq v8 w' => ∃ (x8_2 : Int), v8 = .int .i64 x8_2 ∧ Aside0 (geyserref03_Picks.l1 kq ji7 t313 x7_1 x8_2 t312 x25_1 = some r) ∧ Aside0 (kq ≤ k1) ∧ Aside0 (Kd.R (Kd.int .u8) 5 w' w.heap.size (fun _ => True) v310 x7_1) ∧ Aside0 (Below w.heap.size w w'))
       case atStart => exact ⟨(wrap64 (Int.tmod t313 (IntKind.u64.wrap (ji7)))), (by first | rfl | (simp; done) | (simp only [← hji7] <;> (first | rfl | simp)) | (simp [*]; done)), H', ⟨Nat.le_refl _⟩, ⟨by (with_reducible repeat (first | apply Kd.R_alloc | apply Kd.R_drewN | apply Kd.R_drew)); exact HO_7.out⟩, ⟨by repeat (first | (with_reducible first | exact HB.out | apply below_alloc | apply pw_below_drewN | apply below_drew1) | exact HB.out)⟩⟩
       case round =>
        clear H'
        try clear c1
        try clear p2
        try clear c3
        try clear p6
        try clear c7
        try clear c8
        try clear c8b0
        try clear c8b1
        try clear c9
        try clear c9b0
        try clear c9b1
        try clear c15
        try clear c15b0
        try clear c17
        try clear c17b0
        try clear c17b1
        try clear p2
        try clear p6
        obtain ⟨x8_2, rfl, HA, HK2, HO_7, HB⟩ := hrel
        cases gk with
        | zero => exact absurd HA.out (by simp [geyserref03_Picks.l1])
        | succ k2 =>
         have H := HA.out
         clear HA
         simp only [geyserref03_Picks.l1] at H
         by_cases c18 : 0 ≤ x8_2
         ·rw [if_pos c18] at H
          have c18b0 : decide (0 ≤ x8_2) = true := decide_eq_true c18
          clear c18
          by_cases c19 : x8_2 < (x7_1.length : Int)
          ·rw [if_pos c19] at H
           have c19b0 : decide (x8_2 < (x7_1.length : Int)) = true := decide_eq_true c19
           clear c19
           by_cases c20 : (rd x7_1 x8_2) = 0
           ·rw [if_pos c20] at H
            have c20b0 : ((rd x7_1 x8_2) == 0) = true := beq_iff_eq.mpr c20
            have c20b1 : ((rd x7_1 x8_2) != 0) = false := bne_eq_false_iff_eq.mpr c20
            clear c20
            replace H := Option.bind_eq_some_iff.mp H
            obtain ⟨t315, A210, H⟩ := H
            replace H : (geyserref03_Picks.l0 k2 ji7 t315 (x7_1.set (x8_2 : Int).toNat ((IntKind.u64.wrap (1 + (Int.tmod t315 255))) % 256)) t312 (wrap64 (x25_1 + 1))) = some r := H
            have A21 := Aside0.mk A210
            clear A210
            obtain ⟨y316, hy316⟩ : ∃ y_ : List Int, y_ = (x7_1.set (x8_2 : Int).toNat ((IntKind.u64.wrap (1 + (Int.tmod t315 255))) % 256)) := ⟨_, rfl⟩
            replace H : (geyserref03_Picks.l0 k2 ji7 t315 y316 t312 (wrap64 (x25_1 + 1))) = some r := by first | (rw [hy316]; with_reducible exact H) | (have H2_ := (Option.bind_some _ _).symm.trans H; rw [hy316]; with_reducible exact H2_) | (have H2_ := (Option.bind_some _ _).symm.trans H; with_reducible exact H2_) | with_reducible exact H | (rw [hy316]; exact H) | exact H
            have Ny316 := Aside0.mk hy316
            clear hy316
            have H' := Aside0.mk H
            clear H
            obtain ⟨Ao23, co23, eo23⟩ := Kd.R_slice HO_7.out
            subst eo23
            have p314 : 0 ≤ (x8_2 : Int) := of_decide_eq_true (by first | (with_reducible assumption) | assumption)
            have q314 : x8_2 < (x7_1.length : Int) := of_decide_eq_true (by first | (with_reducible assumption) | assumption)
            obtain ⟨ad314, e314, hx314_0⟩ := Kd.at_int (Kd.R_reads' HO_7.out).2.2 x8_2 p314 q314
            cases e314
            replace p314 := eq_true p314
            replace q314 := eq_true q314
            go_wp2_with (first | ((with_reducible refine gate_callee (f := 91) rfl ?_); refine goesL_ (some 44) rfl rfl Try.func91 (by kernel_rfl) rfl #[.int .u64 t313] rfl (by (try simp only [List.map_toArray, List.map_cons, List.map_nil]); first | done | rfl | (simp only [List.length_drop, List.length_take]; rfl)) ?_; (with_reducible refine (geyserref03_Next.calls t313 t315 _ A21.out).mono ?_); rintro e w' ⟨rfl, ⟨nd, rfl⟩⟩; refine ⟨_, rfl, ?_⟩; (try (rw [drewN_self wr]; generalize hq_ : World.drewN wr _ = wr; have n0_ : Aside0 (Kd.R (Kd.int .u8) 5 wr w.heap.size (fun _ => True) (.slice (some ad314) x7_1.length co23) x7_1) := ⟨by rw [← hq_]; exact (by (with_reducible repeat (first | apply Kd.R_alloc | apply Kd.R_drewN | apply Kd.R_drew)); exact HO_7.out)⟩; have n1_ : Aside0 (Below w.heap.size w wr) := ⟨by rw [← hq_]; exact (by repeat (first | (with_reducible first | exact HB.out | apply below_alloc | apply pw_below_drewN | apply below_drew1) | exact HB.out))⟩; clear HO_7 HB hq_; have HO_7 := n0_; have HB := n1_; clear n0_ n1_)); have p22 : 0 ≤ (x8_2 : Int) := of_decide_eq_true (by first | (with_reducible assumption) | assumption); have q22 : (x8_2 : Int) < ((x7_1.length : Int) : Int) := of_decide_eq_true (by first | (with_reducible assumption) | assumption); obtain ⟨go22, co22, eo22, gb22, gl22, cl22, HG22⟩ := Kd.R_form HO_7.out (by omega); (first | cases eo22 | (injection eo22 with ea_ en_ ec_; (first | subst ea_ | (injection ea_ with ea_; subst ea_)); subst ec_; clear en_)); have GB22 := Aside0.mk gb22; have GG22 := Aside0.mk HG22; clear gb22 gl22 HG22; (first | simp only [add_plain] at hx314_0 | skip); obtain ⟨hx22_0, hf22_0⟩ := Kd.R_celln 0 HO_7.out (x8_2 : Int) p22 q22; replace p22 := eq_true p22; replace q22 := eq_true q22; obtain ⟨hy24_, hz24_⟩ := Kd.R_celln 0 HO_7.out (x8_2 : Int) (of_decide_eq_true (by first | (with_reducible assumption) | assumption)) (of_decide_eq_true (by first | (with_reducible assumption) | assumption)); have HP24 := Kd.R_putg HO_7.out (x8_2 : Int) ((IntKind.u64.wrap (1 + (Int.tmod t315 255))) % 256)) | ((with_reducible refine gate_store (t := 5) (p := 51) rfl ?_); refine store_event (t := 5) (p := 51) (v := ?vo_w25) (w1 := (wr.setCell ⟨go22, (x8_2 : Int).toNat, none⟩ (.int .u8 ((IntKind.u64.wrap (1 + (Int.tmod t315 255))) % 256)))) ?hg ?ho ?hn ?hr ?_; (case ho => rfl); (case hg => rfl); (case hn => rfl); (case hr => first | (go_simp; done) | (go_simp; rfl)); intro w25 hw; have hg : wr.grownBy w25 (some go22) := (by rw [hw]; exact HP24.2); have hp_ : Kd.R (Kd.int .u8) 5 w25 w.heap.size (fun _ => True) (.slice (some ⟨go22, 0, none⟩) x7_1.length co23) y316 := (by rw [hw, Ny316.out]; exact HP24.1); clear HP24; have n0_ := Aside0.mk (hp_); have n1_ := Aside0.mk ((by rw [hw]; exact below_set (HB.out) GB22.out : Below w.heap.size w w25)); clear HO_7; clear HB; have HO_7 := n0_; have HB := n1_; clear n0_ n1_; clear hg hw hp_))
            go_roundg k2
            case measure => have := HK1.out; have := HK2.out; omega
            case rel => exact ⟨(t315), (y316), (wrap64 (x25_1 + 1)), (by first | rfl | (simp; done) | (simp [*]; done)), (by first | rfl | (simp; done) | (simp [*]; done)), H', ⟨by have := HK1.out; have := HK2.out; omega⟩, ⟨by (with_reducible repeat (first | apply Kd.R_alloc | apply Kd.R_drewN | apply Kd.R_drew)); exact HO_7.out⟩, ⟨by repeat (first | (with_reducible first | exact HB.out | apply below_alloc | apply pw_below_drewN | apply below_drew1) | exact HB.out)⟩⟩
           ·rw [if_neg c20] at H
            have c20b0 : ((rd x7_1 x8_2) == 0) = false := beq_eq_false_iff_ne.mpr c20
            have c20b1 : ((rd x7_1 x8_2) != 0) = true := bne_iff_ne.mpr c20
            by_cases c26 : ji7 = 0
            ·rw [if_pos c26] at H
             exact absurd H (by simp)
            ·rw [if_neg c26] at H
             have c26b0 : (ji7 == 0) = false := beq_eq_false_iff_ne.mpr c26
             have c26b1 : (ji7 != 0) = true := bne_iff_ne.mpr c26
             have H' := Aside0.mk H
             clear H
             obtain ⟨Ao27, co27, eo27⟩ := Kd.R_slice HO_7.out
             subst eo27
             have p314 : 0 ≤ (x8_2 : Int) := of_decide_eq_true (by first | (with_reducible assumption) | assumption)
             have q314 : x8_2 < (x7_1.length : Int) := of_decide_eq_true (by first | (with_reducible assumption) | assumption)
             obtain ⟨ad314, e314, hx314_0⟩ := Kd.at_int (Kd.R_reads' HO_7.out).2.2 x8_2 p314 q314
             cases e314
             replace p314 := eq_true p314
             replace q314 := eq_true q314
             go_wp2
             go_roundg k2
             case measure => have := HK1.out; have := HK2.out; omega
             case rel => exact ⟨(Int.tmod (wrap64 (x8_2 + 1)) ji7), (by first | rfl | (simp; done) | (simp only [← hji7] <;> (first | rfl | simp)) | (simp [*]; done)), H', ⟨by have := HK1.out; have := HK2.out; omega⟩, ⟨by (with_reducible repeat (first | apply Kd.R_alloc | apply Kd.R_drewN | apply Kd.R_drew)); exact HO_7.out⟩, ⟨by repeat (first | (with_reducible first | exact HB.out | apply below_alloc | apply pw_below_drewN | apply below_drew1) | exact HB.out)⟩⟩
          ·rw [if_neg c19] at H
           exact absurd H (by simp)
         ·rw [if_neg c18] at H
          exact absurd H (by simp)
     ·rw [if_neg c15] at H
      have c15b0 : decide (x25_1 < t312) = false := decide_eq_false c15
      clear c15
      obtain rfl := Option.some.inj H
      go_wp2
      go_ret
      exact ⟨_, by first | rfl | (simp [errW_none, errW_some] <;> rfl) | (simp only [← hji7]; first | rfl | (simp [errW_none, errW_some] <;> rfl)) | (simp [*, errW_none, errW_some] <;> rfl), by (with_reducible repeat (first | apply Kd.R_alloc | apply Kd.R_drewN | apply Kd.R_drew)); exact HO_7.out, by repeat (first | (with_reducible first | exact HB.out | apply below_alloc | apply pw_below_drewN | apply below_drew1) | exact HB.out)⟩
  ·rw [if_neg c9] at H
   exact absurd H (by simp)
 ·rw [if_neg c8] at H
  exact absurd H (by simp)

def geyserref03_Row.l0 : Nat → Int → List Int → List Int → List (List Int) → Int → Int → Option (List Int)
 | 0, _, _, _, _, _, _ => none
 | k + 1, x0, x5, x6, x7, x20, x21 => if x21 < x20 then (if 0 ≤ x21 then (if x21 < (x7.length : Int) then (if 0 ≤ (wrap64 (x0 + x21)) then (if (wrap64 (x0 + x21)) < (x5.length : Int) then ((geyserref03_Plus.f k x6 (rd_L1 x7 x21) (rd x5 (wrap64 (x0 + x21)))).bind fun t335 => (geyserref03_Row.l0 k x0 x5 t335 x7 x20 (wrap64 (x21 + 1)))) else (none)) else (none)) else (none)) else (none)) else (some x6)
def geyserref03_Row.f (k : Nat) (a0 : Int) (a1 : Int) : Option (List Int) := (geyserref03_Picks.f k a0 a1).bind fun t317 => ((some (([] : List Int) : List Int)).bind fun y320 => (if 0 ≤ a0 then (if a0 ≤ (t317.length : Int) then ((some (t317.take (a0 : Int).toNat : List Int)).bind fun y323 => (if y320.length + y323.length < 140737488355328 then ((geyserref03_Parities.f k a0).bind fun t330 => (geyserref03_Row.l0 k a0 t317 (y320 ++ y323) t330 (t330.length : Int) 0)) else (none))) else (none)) else (none)))
theorem geyserref03_Row.mono_l : ∀ k, (∀ y0 y1 y2 y3 y4 y5, LeO (geyserref03_Row.l0 k y0 y1 y2 y3 y4 y5) (geyserref03_Row.l0 (k + 1) y0 y1 y2 y3 y4 y5))
 | 0 => fun _ _ _ _ _ _ r h => by simp [geyserref03_Row.l0] at h
 | k + 1 => by
  have ih0 := geyserref03_Row.mono_l k
  ·intro y0 y1 y2 y3 y4 y5
   unfold geyserref03_Row.l0
   repeat' first
   | (with_reducible exact ih0 _ _ _ _ _ _)
   | (with_reducible exact geyserref03_Parities.mono _ _)
   | (with_reducible exact geyserref03_Picks.mono _ _ _)
   | (with_reducible exact geyserref03_Plus.mono _ _ _ _)
   | (with_reducible exact LeO.refl _)
   | (with_reducible exact LeO.none _)
   | (with_reducible refine LeO.ite ?_ ?_)
   | (with_reducible refine LeO.bind ?_ (fun _ => ?_))
   | exact ih0 _ _ _ _ _ _
   | exact geyserref03_Parities.mono _ _
   | exact geyserref03_Picks.mono _ _ _
   | exact geyserref03_Plus.mono _ _ _ _
   | exact LeO.none _
   | refine LeO.ite ?_ ?_
   | refine LeO.bind ?_ (fun _ => ?_)
theorem geyserref03_Row.mono : ∀ a0 a1 k, LeO (geyserref03_Row.f k a0 a1) (geyserref03_Row.f (k + 1) a0 a1) := by
 intro a0 a1 k
 have ih0 := geyserref03_Row.mono_l k
 unfold geyserref03_Row.f
 repeat' first
   | (with_reducible exact ih0 _ _ _ _ _ _)
   | (with_reducible exact geyserref03_Parities.mono _ _)
   | (with_reducible exact geyserref03_Picks.mono _ _ _)
   | (with_reducible exact geyserref03_Plus.mono _ _ _ _)
   | (with_reducible exact LeO.refl _)
   | (with_reducible exact LeO.none _)
   | (with_reducible refine LeO.ite ?_ ?_)
   | (with_reducible refine LeO.bind ?_ (fun _ => ?_))
   | exact ih0 _ _ _ _ _ _
   | exact geyserref03_Parities.mono _ _
   | exact geyserref03_Picks.mono _ _ _
   | exact geyserref03_Plus.mono _ _ _ _
   | exact LeO.none _
   | refine LeO.ite ?_ ?_
   | refine LeO.bind ?_ (fun _ => ?_)
def geyserref03_Row.T7 : Bool × List (List Nat × List Nat) := (true, [([], []), ([], []), ([], []), ([1, 2], [1, 2]), ([3], [3]), ([], []), ([], []), ([], []), ([6, 7], [6, 7]), ([5, 8], [5, 8]), ([9], [9]), ([0, 4, 10], [0, 4, 10]), ([11, 11, 0, 1, 2, 3, 4, 5, 6, 7, 8, 9, 10, 11], [0, 11])])
def geyserref03_Row.B7 : List Nat := [0, 0, 0, 6, 14, 0, 0, 0, 192, 480, 992, 2047, 4095]
theorem geyserref03_Row.tab7 : rtab .any (opsOf Try.f50 7) = geyserref03_Row.T7 := by kernel_rfl
theorem geyserref03_Row.bits7 : waitsOk geyserref03_Row.T7.2 geyserref03_Row.B7 = true := by kernel_rfl
set_option maxHeartbeats 8000000 in
set_option maxRecDepth 100000 in
theorem geyserref03_Row.calls (k : Nat) (a0 : Int) (a1 : Int) (r : List Int) (w : World) (h : geyserref03_Row.f k a0 a1 = some r) :
  Calls Try.prog 50 #[.int .i64 a0, .int .u32 a1] w fun e w' => ∃ v0_ : Value, e = .returned (v0_) ∧ Kd.R (Kd.int .u8) 5 w' w.heap.size (fun _ => True) v0_ r ∧ Below w.heap.size w w' := by
 have HB := Aside0.mk (Below.refl w.heap.size w)
 have H : ((geyserref03_Picks.f k a0 a1).bind fun t317 => ((some (([] : List Int) : List Int)).bind fun y320 => (if 0 ≤ a0 then (if a0 ≤ (t317.length : Int) then ((some (t317.take (a0 : Int).toNat : List Int)).bind fun y323 => (if y320.length + y323.length < 140737488355328 then ((geyserref03_Parities.f k a0).bind fun t330 => (geyserref03_Row.l0 k a0 t317 (y320 ++ y323) t330 (t330.length : Int) 0)) else (none))) else (none)) else (none)))) = some r := h
 clear h
 replace H := Option.bind_eq_some_iff.mp H
 obtain ⟨t317, A30, H⟩ := H
 replace H : ((some (([] : List Int) : List Int)).bind fun y320 => (if 0 ≤ a0 then (if a0 ≤ (t317.length : Int) then ((some (t317.take (a0 : Int).toNat : List Int)).bind fun y323 => (if y320.length + y323.length < 140737488355328 then ((geyserref03_Parities.f k a0).bind fun t330 => (geyserref03_Row.l0 k a0 t317 (y320 ++ y323) t330 (t330.length : Int) 0)) else (none))) else (none)) else (none))) = some r := H
 have A3 := Aside0.mk A30
 clear A30
 obtain ⟨y320, hy320⟩ : ∃ y_ : List Int, y_ = (([] : List Int)) := ⟨_, rfl⟩
 replace H : (if 0 ≤ a0 then (if a0 ≤ (t317.length : Int) then ((some (t317.take (a0 : Int).toNat : List Int)).bind fun y323 => (if y320.length + y323.length < 140737488355328 then ((geyserref03_Parities.f k a0).bind fun t330 => (geyserref03_Row.l0 k a0 t317 (y320 ++ y323) t330 (t330.length : Int) 0)) else (none))) else (none)) else (none)) = some r := by first | (rw [hy320]; with_reducible exact H) | (have H2_ := (Option.bind_some _ _).symm.trans H; rw [hy320]; with_reducible exact H2_) | (have H2_ := (Option.bind_some _ _).symm.trans H; with_reducible exact H2_) | with_reducible exact H | (rw [hy320]; exact H) | exact H
 have Ny320 := Aside0.mk hy320
 clear hy320
 by_cases c4 : 0 ≤ a0
 ·rw [if_pos c4] at H
  have c4b0 := eq_true c4
  have c4b1 : decide (0 ≤ a0) = true := decide_eq_true c4
  clear c4
  by_cases c5 : a0 ≤ (t317.length : Int)
  ·rw [if_pos c5] at H
   have c5b0 := eq_true c5
   have c5b1 : decide (a0 ≤ (t317.length : Int)) = true := decide_eq_true c5
   clear c5
   obtain ⟨y323, hy323⟩ : ∃ y_ : List Int, y_ = (t317.take (a0 : Int).toNat) := ⟨_, rfl⟩
   replace H : (if y320.length + y323.length < 140737488355328 then ((geyserref03_Parities.f k a0).bind fun t330 => (geyserref03_Row.l0 k a0 t317 (y320 ++ y323) t330 (t330.length : Int) 0)) else (none)) = some r := by first | (rw [hy323]; with_reducible exact H) | (have H2_ := (Option.bind_some _ _).symm.trans H; rw [hy323]; with_reducible exact H2_) | (have H2_ := (Option.bind_some _ _).symm.trans H; with_reducible exact H2_) | with_reducible exact H | (rw [hy323]; exact H) | exact H
   have Ny323 := Aside0.mk hy323
   clear hy323
   by_cases c6 : y320.length + y323.length < 140737488355328
   ·rw [if_pos c6] at H
    have LMc6 := Aside0.mk c6
    clear c6
    obtain ⟨y327, hy327⟩ : ∃ y_ : List Int, y_ = (y320 ++ y323) := ⟨_, rfl⟩
    replace H : ((geyserref03_Parities.f k a0).bind fun t330 => (geyserref03_Row.l0 k a0 t317 y327 t330 (t330.length : Int) 0)) = some r := by first | (rw [hy327]; with_reducible exact H) | (have H2_ := (Option.bind_some _ _).symm.trans H; rw [hy327]; with_reducible exact H2_) | (have H2_ := (Option.bind_some _ _).symm.trans H; with_reducible exact H2_) | with_reducible exact H | (rw [hy327]; exact H) | exact H
    have Ny327 := Aside0.mk hy327
    clear hy327
    replace H := Option.bind_eq_some_iff.mp H
    obtain ⟨t330, A70, H⟩ := H
    replace H : (geyserref03_Row.l0 k a0 t317 y327 t330 (t330.length : Int) 0) = some r := H
    have A7 := Aside0.mk A70
    clear A70
    have H' := Aside0.mk H
    clear H
    go_enter Try.func50, Try.ntmps50
    go_wp2_with (first | ((with_reducible refine gate_callee (f := 77) rfl ?_); refine goesL_ (some 11) rfl rfl Try.func77 (by kernel_rfl) rfl #[.int .i64 a0, .int .u32 a1] rfl (by (try simp only [List.map_toArray, List.map_cons, List.map_nil]); first | done | rfl | (simp only [List.length_drop, List.length_take]; rfl)) ?_; (with_reducible refine (geyserref03_Picks.calls k a0 a1 t317 _ A3.out).mono ?_); rintro e w8 ⟨v318, rfl, ho0, hb⟩; refine ⟨_, rfl, ?_⟩; have n0_ := Aside0.mk (Kd.R_lower ho0 (below_size (by repeat (first | (with_reducible first | exact HB.out | apply below_alloc | apply pw_below_drewN | apply below_drew1) | exact HB.out)))); have n1_ := Aside0.mk (below_step (by repeat (first | (with_reducible first | exact HB.out | apply below_alloc | apply pw_below_drewN | apply below_drew1) | exact HB.out)) hb); clear HB; have HO319 := n0_; have HB := n1_; clear n0_ n1_; (try clear hb); (try clear hb2); (try clear hk); (try clear hi); (try clear ho0)) | ((with_reducible refine gate_dst (N := 12) rfl ?_); refine Kd.R_lit (Kd.int .u8) _ 5 ?hg (N := 12) ?hd (xs := ([] : List Int)) (inner := []) (ok := fun _ => True) (okp := fun _ => True) ?hr ?hp (fun _ hk => hk) trivial (Below.refl _ _) (Nat.le_refl _) (by simp) ?_; (case hd => rfl); (case hg => rfl); (case hr => first | (go_simp; done) | (go_simp; rfl)); (case hp => exact (Reps.none _ _)); intro v321 w9 ho10 hb hg_ hnew_; clear hg_ hnew_; (first | rw [← Ny320.out] at ho10 | (simp only [Int.reduceToNat] at ho10; rw [← Ny320.out] at ho10)); have n0_ := Aside0.mk (Kd.R_elder' (by (with_reducible repeat (first | apply Kd.R_alloc | apply Kd.R_drewN | apply Kd.R_drew)); exact HO319.out) (Kd.R_base ho10) hb); have n1_ := Aside0.mk (Kd.R_lower (Kd.R_new' ho10 (Kd.R_lt (by (with_reducible repeat (first | apply Kd.R_alloc | apply Kd.R_drewN | apply Kd.R_drew)); exact HO319.out))) (below_size (by repeat (first | (with_reducible first | exact HB.out | apply below_alloc | apply pw_below_drewN | apply below_drew1) | exact HB.out)))); have n2_ := Aside0.mk (below_step (by repeat (first | (with_reducible first | exact HB.out | apply below_alloc | apply pw_below_drewN | apply below_drew1) | exact HB.out)) hb); clear HO319; clear HB; have HO319 := n0_; have HO322 := n1_; have HB := n2_; clear n0_ n1_ n2_; clear hb ho10; obtain ⟨Ao12, co12, eo12⟩ := Kd.R_slice HO319.out; subst eo12; have q11 : (a0 : Int) ≤ ((t317.length : Int) : Int) := of_decide_eq_true (by first | (with_reducible assumption) | assumption); obtain ⟨i011, hi011, _, hsz11, _⟩ := info_parts info5; have hroom11 : t317.length ≤ co12 := (Kd.R_reads' HO319.out).2.1; have hC11 : Kd.C (Kd.int .u8) _ Ao12 t317.length t317 := (Kd.R_reads' HO319.out).2.2; have hcut11 := cut_to (P := Try.prog) 31 5 .i64 Try.underlying31 hi011 Ao12 t317.length co12 a0 (of_decide_eq_true (by first | (with_reducible assumption) | assumption)) q11 hroom11; have hr11 := Kd.C_take (m := (a0 : Int).toNat) hC11 (by omega); have hy11 : y323.length = (a0 : Int).toNat := (by rw [Ny323.out, List.length_take]; omega); rw [← Ny323.out] at hr11; rw [← hy11] at hcut11; have HR326 := Aside0.mk hr11; have HC326 := Aside0.mk (show y323.length ≤ co12 from by omega); clear hr11 hC11 hroom11 hi011 hsz11; have KY11 := Aside0.mk hy11; clear hy11; have KL11 := Aside0.mk (show (a0 : Int).toNat ≤ t317.length from by omega); replace q11 := eq_true q11) | ((with_reducible refine gate_builtin (b := .append) (xs := #[.tmp 12, .tmp 15]) rfl ?_); at_builtin; refine Kd.R_append_rows (Kd.int .u8) (w0 := w) w.heap.size rfl (.tmp 12) (.tmp 15) 31 5 (.int .u8 0) 1 rfl Try.underlying31 info5 rfl (by decide) (by omega) v321 y320 y323 _ _ _ (fun k_ => some k_ ≠ (.slice Ao12 t317.length co12 : Value).ownBlock) (fun _ => False) rfl rfl ?aO ?aR (fun _ _ h => h) (fun _ h => h.elim) ?aF ?aB ?aS ?aL ?_; (case aR => repeat (first | exact (by repeat (first | (with_reducible exact HR326.out) | (with_reducible refine Kd.C_alloc ?_ _) | (with_reducible refine Kd.C_drewN ?_ _) | (with_reducible refine Kd.C_drew ?_) | exact HR326.out)) | (with_reducible refine Kd.C_alloc ?_ _) | (with_reducible refine Kd.C_drewN ?_ _) | (with_reducible refine Kd.C_drew ?_))); (case aB => exact (by repeat (first | (with_reducible first | exact HB.out | apply below_alloc | apply pw_below_drewN | apply below_drew1) | exact HB.out))); (case aF => exact (fun k_ hk => Kd.fresh' (Kd.R_lt (by (with_reducible repeat (first | apply Kd.R_alloc | apply Kd.R_drewN | apply Kd.R_drew)); exact HO319.out)) k_ hk)); (case aO => exact (by (with_reducible repeat (first | apply Kd.R_alloc | apply Kd.R_drewN | apply Kd.R_drew)); exact Kd.R_mono HO322.out (fun _ hk => by first | exact hk.2 | exact hk.1 | exact hk.1.1 | exact hk.1.2 | exact hk.2.1 | exact hk.2.2))); (case aS => exact (below_size (by repeat (first | (with_reducible first | exact HB.out | apply below_alloc | apply pw_below_drewN | apply below_drew1) | exact HB.out)))); (case aL => have := LMc6.out; omega); intro v328 w13 ho hb hg hat; rw [← Ny327.out] at ho; have n0_ := Aside0.mk (Kd.R_after (ok := (fun _ => True)) (by (with_reducible repeat (first | apply Kd.R_alloc | apply Kd.R_drewN | apply Kd.R_drew)); exact HO319.out) hg hat); have n1_ := Aside0.mk (hb); have n2_ := Aside0.mk ((show Kd.C (Kd.int .u8) w13 Ao12 y323.length y323 from by rw [Ny323.out]; exact Kd.C_take (m := (a0 : Int).toNat) ((Kd.R_reads' (Kd.R_after (ok := (fun _ => True)) (by (with_reducible repeat (first | apply Kd.R_alloc | apply Kd.R_drewN | apply Kd.R_drew)); exact HO319.out) hg hat)).2.2) KL11.out)); have n3_ := Aside0.mk (ho); clear HO319; clear HB; clear HR326; clear HO322; have HO319 := n0_; have HB := n1_; have HR326 := n2_; have HO329 := n3_; clear n0_ n1_ n2_ n3_; clear ho hb hg hat) | ((with_reducible refine gate_callee (f := 32) rfl ?_); refine goesL_ (some 18) rfl rfl Try.func32 (by kernel_rfl) rfl #[.int .i64 a0] rfl (by (try simp only [List.map_toArray, List.map_cons, List.map_nil]); first | done | rfl | (simp only [List.length_drop, List.length_take]; rfl)) ?_; (with_reducible refine (geyserref03_Parities.calls k a0 t330 _ A7.out).mono ?_); rintro e w14 ⟨v331, rfl, ho0, hb⟩; refine ⟨_, rfl, ?_⟩; have n0_ := Aside0.mk (Kd.R_below (by (with_reducible repeat (first | apply Kd.R_alloc | apply Kd.R_drewN | apply Kd.R_drew)); exact HO319.out) hb); have n1_ := Aside0.mk (Kd.R_below (by (with_reducible repeat (first | apply Kd.R_alloc | apply Kd.R_drewN | apply Kd.R_drew)); exact HO329.out) hb); have n2_ := Aside0.mk (Kd.S_lower (Kd.S_new' (Kd.S_new' ho0 (Kd.R_lt (by (with_reducible repeat (first | apply Kd.R_alloc | apply Kd.R_drewN | apply Kd.R_drew)); exact HO319.out))) (Kd.R_lt (by (with_reducible repeat (first | apply Kd.R_alloc | apply Kd.R_drewN | apply Kd.R_drew)); exact HO329.out))) (below_size (by repeat (first | (with_reducible first | exact HB.out | apply below_alloc | apply pw_below_drewN | apply below_drew1) | exact HB.out)))); have n3_ := Aside0.mk (Kd.C_below (by repeat (first | (with_reducible exact HR326.out) | (with_reducible refine Kd.C_alloc ?_ _) | (with_reducible refine Kd.C_drewN ?_ _) | (with_reducible refine Kd.C_drew ?_) | exact HR326.out)) hb); have n4_ := Aside0.mk (below_step (by repeat (first | (with_reducible first | exact HB.out | apply below_alloc | apply pw_below_drewN | apply below_drew1) | exact HB.out)) hb); clear HO319; clear HO329; clear HR326; clear HB; have HO319 := n0_; have HO329 := n1_; have HO332 := n2_; have HR326 := n3_; have HB := n4_; clear n0_ n1_ n2_ n3_ n4_; (try clear hb); (try clear hb2); (try clear hk); (try clear hi); (try clear ho0); obtain ⟨Ao15, co15, eo15⟩ := Kd.S_slice HO332.out; subst eo15))
    go_loopg [6, 21] k (fun kq v6 v21 w' => ∃ (x6_1 : List Int) (x21_1 : Int), v21 = .int .i64 x21_1 ∧ Aside0 (geyserref03_Row.l0 kq a0 t317 x6_1 t330 (t330.length : Int) x21_1 = some r) ∧ Aside0 (kq ≤ k) ∧ Aside0 (Kd.R (Kd.int .u8) 5 w' w.heap.size (fun k_ => some k_ ≠ (v6 : Value).ownBlock) (.slice Ao12 t317.length co12) t317) ∧ Aside0 (Kd.R (Kd.int .u8) 5 w' w.heap.size (fun k_ => some k_ ≠ ((.slice Ao12 t317.length co12) : Value).ownBlock) v6 x6_1) ∧ Aside0 (Kd.S (Kd.slice 5 (Kd.int .u8)) 31 w' w.heap.size (fun k_ => some k_ ≠ ((.slice Ao12 t317.length co12) : Value).ownBlock ∧ some k_ ≠ (v6 : Value).ownBlock) (.slice Ao15 t330.length co15) t330) ∧ Aside0 (Kd.C (Kd.int .u8) w' Ao12 y323.length y323) ∧ Aside0 (Below w.heap.size w w'))
    case atStart => exact ⟨(y327), (0), (by first | rfl | (simp; done) | (simp [*]; done)), H', ⟨Nat.le_refl _⟩, ⟨by (with_reducible repeat (first | apply Kd.R_alloc | apply Kd.R_drewN | apply Kd.R_drew)); exact Kd.R_mono HO319.out (fun _ hk => by first | exact hk.2 | exact hk.1 | exact hk.1.1 | exact hk.1.2 | exact hk.2.1 | exact hk.2.2)⟩, ⟨by (with_reducible repeat (first | apply Kd.R_alloc | apply Kd.R_drewN | apply Kd.R_drew)); exact HO329.out⟩, ⟨by (with_reducible repeat (first | apply Kd.S_alloc | apply Kd.S_drewN | apply Kd.S_drew)); exact Kd.S_mono HO332.out (fun _ hk => ⟨hk.1.2, hk.2⟩)⟩, ⟨by repeat (first | (with_reducible exact HR326.out) | (with_reducible refine Kd.C_alloc ?_ _) | (with_reducible refine Kd.C_drewN ?_ _) | (with_reducible refine Kd.C_drew ?_) | exact HR326.out)⟩, ⟨by repeat (first | (with_reducible first | exact HB.out | apply below_alloc | apply pw_below_drewN | apply below_drew1) | exact HB.out)⟩⟩
    case round =>
     clear H'
     try clear q1
     try clear p2
     try clear c3
     try clear c4
     try clear c4b0
     try clear c4b1
     try clear c5
     try clear c5b0
     try clear c5b1
     try clear c6
     try clear c7
     try clear q11
     try clear q11
     obtain ⟨x6_1, x21_1, rfl, HA, HK1, HO_5, HO_6, HO_7, HR326, HB⟩ := hrel
     cases gk with
     | zero => exact absurd HA.out (by simp [geyserref03_Row.l0])
     | succ k1 =>
      have H := HA.out
      clear HA
      simp only [geyserref03_Row.l0] at H
      by_cases c16 : x21_1 < (t330.length : Int)
      ·rw [if_pos c16] at H
       have c16b0 : decide (x21_1 < (t330.length : Int)) = true := decide_eq_true c16
       clear c16
       by_cases c17 : 0 ≤ x21_1
       ·rw [if_pos c17] at H
        have c17b0 : decide (0 ≤ x21_1) = true := decide_eq_true c17
        clear c17
        by_cases c18 : x21_1 < (t330.length : Int)
        ·rw [if_pos c18] at H
         have c18b0 : decide (x21_1 < (t330.length : Int)) = true := decide_eq_true c18
         clear c18
         obtain ⟨ji19, hji19⟩ : ∃ j_ : Int, (wrap64 (a0 + x21_1)) = j_ := ⟨_, rfl⟩
         replace H : (if 0 ≤ (ji19) then (if (ji19) < (t317.length : Int) then ((geyserref03_Plus.f k1 x6_1 (rd_L1 t330 x21_1) (rd t317 (ji19))).bind fun t335 => (geyserref03_Row.l0 k1 a0 t317 t335 t330 (t330.length : Int) (wrap64 (x21_1 + 1)))) else (none)) else (none)) = some r := by first | (rw [hji19] at H; exact H) | (simp only [hji19] at H ⊢; exact H)
         have hji19w : (IntKind.i64.wrap (a0 + x21_1)) = ji19 := (i64_w _).trans hji19
         by_cases c20 : 0 ≤ (ji19)
         ·rw [if_pos c20] at H
          have c20b0 : decide (0 ≤ (ji19)) = true := decide_eq_true c20
          clear c20
          by_cases c21 : (ji19) < (t317.length : Int)
          ·rw [if_pos c21] at H
           have c21b0 : decide ((ji19) < (t317.length : Int)) = true := decide_eq_true c21
           clear c21
           replace H := Option.bind_eq_some_iff.mp H
           obtain ⟨t335, A220, H⟩ := H
           replace H : (geyserref03_Row.l0 k1 a0 t317 t335 t330 (t330.length : Int) (wrap64 (x21_1 + 1))) = some r := H
           have A22 := Aside0.mk A220
           clear A220
           have H' := Aside0.mk H
           clear H
           try go_wp2
           have n0_ := Aside0.mk (Kd.R_drew HO_5.out)
           have n1_ := Aside0.mk (Kd.R_drew HO_6.out)
           have n2_ := Aside0.mk (Kd.S_drew HO_7.out)
           have n3_ := Aside0.mk (Kd.C_drew HR326.out)
           have n4_ := Aside0.mk (below_drew1 HB.out)
           clear HO_5
           clear HO_6
           clear HO_7
           clear HR326
           clear HB
           have HO_5 := n0_
           have HO_6 := n1_
           have HO_7 := n2_
           have HR326 := n3_
           have HB := n4_
           clear n0_ n1_ n2_ n3_ n4_
           have p333 : 0 ≤ (x21_1 : Int) := of_decide_eq_true (by first | (with_reducible assumption) | assumption)
           have q333 : x21_1 < (t330.length : Int) := of_decide_eq_true (by first | (with_reducible assumption) | assumption)
           obtain ⟨ad333, A333_0, c333_0, e333, hx333_0, hl333_0, hi333_0⟩ := at_L1 (Kd.S_reads' HO_7.out).2.2 x21_1 p333 q333
           cases e333
           obtain ⟨ce333, hce333, hMe333, hcc333⟩ := Kd.S_get HO_7.out [] x21_1 p333 (by first | exact q333 | exact of_decide_eq_true (by first | (with_reducible assumption) | assumption) | (have e_ := (Kd.S_reads' HO_7.out).1; omega))
           obtain ⟨ve333_0, rfl, ge333_0⟩ := hMe333
           have hv333_0 := hcc333 0 _ rfl
           rw [Nat.add_zero, show ((Kd.slice 5 (Kd.int .u8))).sz = 1 from rfl, Nat.mul_one] at hv333_0
           replace hv333_0 := Option.some.inj (hv333_0.symm.trans hx333_0)
           rw [hv333_0] at ge333_0
           have HL333_0 := Aside0.mk (show Kd.R (Kd.int .u8) 5 _ _ _ _ (rd_L1 t330 x21_1) from ge333_0)
           clear hv333_0 ge333_0
           clear hcc333 hce333
           have HR333_0 := Aside0.mk hi333_0
           have HC333_0 := Aside0.mk hl333_0
           clear hi333_0 hl333_0
           replace p333 := eq_true p333
           replace q333 := eq_true q333
           have p334 : 0 ≤ ((ji19) : Int) := of_decide_eq_true (by first | (with_reducible assumption) | assumption)
           have q334 : (ji19) < (t317.length : Int) := of_decide_eq_true (by first | (with_reducible assumption) | assumption)
           obtain ⟨ad334, e334, hx334_0⟩ := Kd.at_int (Kd.R_reads' HO_5.out).2.2 (ji19) p334 q334
           cases e334
           replace p334 := eq_true p334
           replace q334 := eq_true q334
           obtain ⟨Ao24, co24, eo24⟩ := Kd.R_slice HO_6.out
           (first | subst eo24 | (injection eo24 with f1_ f2_ f3_; have f4_ := f1_.symm; have f5_ := f3_.symm; clear f1_ f2_ f3_; subst f4_; subst f5_))
           refine start_ (n := 13) (S := fun w' => w'.cell? (ad333.add (x21_1).toNat) = some (.slice A333_0 (rd_L1 t330 x21_1).length c333_0) ∧ w'.cell? (ad334.add ((ji19)).toNat) = some (.int .u8 (rd t317 (ji19)))) (ds := []) #[false, false, false, false, false, false, false, false, false, false, false, false, false] (by kernel_rfl) rfl rfl ⟨hx333_0, hx334_0⟩ (fun hHeld => ?_); refine with_tabW geyserref03_Row.tab7 geyserref03_Row.bits7 (fun HT_ HW_ => ?_)
           generalize wr.drew = w23 at HO_5 HO_6 HO_7 HR326 HB HL333_0 HR333_0 hx333_0 hx334_0 hHeld ⊢
           refine pure_ (i := 0) (N := some 24) (v := ?_) (a' := ?_) #[true, false, false, false, false, false, false, false, false, false, false, false, false] rfl rfl (any_of HT_.out (by kernel_rfl)) (fun _ _ _ h => h) (Or.inl ⟨by rfl, ?_⟩) ?_ ?_
           rotate_left
           ·intro w'
            go_simp
            with_reducible rfl
           rotate_left
           ·simp only [Act.put, List.setIfInBounds_toArray, List.set_cons_zero, List.set_cons_succ, i64_w, i32_w]
            rfl
           refine pure_ (i := 1) (N := some 25) (v := ?_) (a' := ?_) #[true, true, false, false, false, false, false, false, false, false, false, false, false] rfl rfl (any_of HT_.out (by kernel_rfl)) (fun _ _ _ h => h) (Or.inl ⟨by rfl, ?_⟩) ?_ ?_
           rotate_left
           ·intro w'
            go_simp
            with_reducible rfl
           rotate_left
           ·simp only [Act.put, List.setIfInBounds_toArray, List.set_cons_zero, List.set_cons_succ, i64_w, i32_w]
            rfl
           refine pure_ (i := 2) (N := some 26) (v := ?_) (a' := ?_) #[true, true, true, false, false, false, false, false, false, false, false, false, false] rfl rfl (any_of HT_.out (by kernel_rfl)) (fun _ _ _ h => h) (Or.inl ⟨by rfl, ?_⟩) ?_ ?_
           rotate_left
           ·intro w'
            go_simp
            with_reducible rfl
           rotate_left
           ·simp only [Act.put, List.setIfInBounds_toArray, List.set_cons_zero, List.set_cons_succ, i64_w, i32_w]
            rfl
           refine pure_ (i := 3) (N := some 27) (v := ?_) (a' := ?_) #[true, true, true, true, false, false, false, false, false, false, false, false, false] rfl rfl (any_of HT_.out (by kernel_rfl)) (fun _ _ _ h => h) (Or.inl ⟨by rfl, ?_⟩) ?_ ?_
           rotate_left
           ·intro w'
            go_simp
            with_reducible rfl
           rotate_left
           ·simp only [Act.put, List.setIfInBounds_toArray, List.set_cons_zero, List.set_cons_succ, i64_w, i32_w]
            rfl
           refine pure_ (i := 5) (N := some 29) (v := ?_) (a' := ?_) #[true, true, true, true, false, true, false, false, false, false, false, false, false] rfl rfl (any_of HT_.out (by kernel_rfl)) (fun _ _ _ h => h) (Or.inl ⟨by rfl, ?_⟩) ?_ ?_
           rotate_left
           ·intro w'
            go_simp
            with_reducible rfl
           rotate_left
           ·simp only [Act.put, List.setIfInBounds_toArray, List.set_cons_zero, List.set_cons_succ, i64_w, i32_w]
            rfl
           refine pure_ (i := 6) (N := some 30) (v := ?_) (a' := ?_) #[true, true, true, true, false, true, true, false, false, false, false, false, false] rfl rfl (any_of HT_.out (by kernel_rfl)) (fun _ _ _ h => h) (Or.inl ⟨by rfl, ?_⟩) ?_ ?_
           rotate_left
           ·intro w'
            go_simp
            with_reducible rfl
           rotate_left
           ·simp only [Act.put, List.setIfInBounds_toArray, List.set_cons_zero, List.set_cons_succ, i64_w, i32_w]
            rfl
           refine pure_ (i := 7) (N := some 31) (v := ?_) (a' := ?_) #[true, true, true, true, false, true, true, true, false, false, false, false, false] rfl rfl (any_of HT_.out (by kernel_rfl)) (fun _ _ _ h => h) (Or.inl ⟨by rfl, ?_⟩) ?_ ?_
           rotate_left
           ·intro w'
            go_simp
            with_reducible rfl
           rotate_left
           ·simp only [Act.put, List.setIfInBounds_toArray, List.set_cons_zero, List.set_cons_succ, i64_w, i32_w]
            rfl
           refine pure_ (i := 8) (N := some 32) (v := ?_) (a' := ?_) #[true, true, true, true, false, true, true, true, true, false, false, false, false] rfl rfl (any_of HT_.out (by kernel_rfl)) (fun _ _ _ h => h) (Or.inl ⟨by rfl, ?_⟩) ?_ ?_
           rotate_left
           ·intro w'
            go_simp
            with_reducible rfl
           rotate_left
           ·simp only [Act.put, List.setIfInBounds_toArray, List.set_cons_zero, List.set_cons_succ, i64_w, i32_w]
            rfl
           refine pure_ (i := 9) (N := some 33) (v := ?_) (a' := ?_) #[true, true, true, true, false, true, true, true, true, true, false, false, false] rfl rfl (any_of HT_.out (by kernel_rfl)) (fun _ _ _ h => h) (Or.inl ⟨by rfl, ?_⟩) ?_ ?_
           rotate_left
           ·intro w'
            go_simp
            with_reducible rfl
           rotate_left
           ·simp only [Act.put, List.setIfInBounds_toArray, List.set_cons_zero, List.set_cons_succ, i64_w, i32_w]
            rfl
           refine take_ (i := 4) (N := some 28) (v := ?_) (a' := ?_) #[true, true, true, true, true, true, true, true, true, true, false, false, false] rfl rfl (take_ofW HT_.out HW_.out (by kernel_rfl)) (fun _ _ _ h => h) (Or.inl ⟨by rfl, ?_⟩) hHeld ?_ ?_
           rotate_left
           ·rintro w' ⟨s0, s1⟩
            go_simp
            with_reducible rfl
           rotate_left
           ·simp only [Act.put, List.setIfInBounds_toArray, List.set_cons_zero, List.set_cons_succ, i64_w, i32_w]
            rfl
           refine take_ (i := 10) (N := some 34) (v := ?_) (a' := ?_) #[true, true, true, true, true, true, true, true, true, true, true, false, false] rfl rfl (take_ofW HT_.out HW_.out (by kernel_rfl)) (fun _ _ _ h => h) (Or.inl ⟨by rfl, ?_⟩) hHeld ?_ ?_
           rotate_left
           ·rintro w' ⟨s0, s1⟩
            go_simp
            with_reducible rfl
           rotate_left
           ·simp only [Act.put, List.setIfInBounds_toArray, List.set_cons_zero, List.set_cons_succ, i64_w, i32_w]
            rfl
           refine one_ (i := 11) (N := some 35) #[true, true, true, true, true, true, true, true, true, true, true, true, false] rfl rfl (one_of HT_.out (by kernel_rfl)) (by decide) (fun K hK => ?_)
           refine goes_ Try.func20 (by kernel_rfl) rfl #[.slice Ao24 x6_1.length co24, .slice A333_0 (rd_L1 t330 x21_1).length c333_0, .int .u8 (rd t317 (ji19))] (by rfl) rfl rfl (by (try simp only [List.map_toArray, List.map_cons, List.map_nil]); first | done | (simp only [hji19]; rfl) | rfl | (simp only [List.length_drop, List.length_take]; rfl)) ?_
           with_reducible refine (geyserref03_Plus.calls k1 _ _ x6_1 _ _ (rd_L1 t330 x21_1) (rd t317 (ji19)) t335 _ ?side1 ?side2 ?side3 ?side4 A22.out).mono ?_
           (case side1 => repeat (first | exact (Kd.R_reads' HO_6.out).2.2 | (with_reducible refine Kd.C_alloc ?_ _) | (with_reducible refine Kd.C_drewN ?_ _) | (with_reducible refine Kd.C_drew ?_)))
           (case side2 => exact (Kd.R_reads' HO_6.out).2.1)
           (case side3 => repeat (first | exact (by repeat (first | (with_reducible exact HR333_0.out) | (with_reducible refine Kd.C_alloc ?_ _) | (with_reducible refine Kd.C_drewN ?_ _) | (with_reducible refine Kd.C_drew ?_) | exact HR333_0.out)) | (with_reducible refine Kd.C_alloc ?_ _) | (with_reducible refine Kd.C_drewN ?_ _) | (with_reducible refine Kd.C_drew ?_)))
           (case side4 => exact HC333_0.out)
           rintro e w25 ⟨v336, rfl, ho0, hb⟩
           have HS0_ := (hb.cell (World.block_lt_of_cell? _ _ (hHeld.1))).trans (hHeld.1)
           have HS1_ := (hb.cell (World.block_lt_of_cell? _ _ (hHeld.2))).trans (hHeld.2)
           refine ⟨_, rfl, ?_⟩
           have n0_ := Aside0.mk (Kd.R_elder' (by (with_reducible repeat (first | apply Kd.R_alloc | apply Kd.R_drewN | apply Kd.R_drew)); exact HO_5.out) (Kd.R_base ho0) hb)
           have n1_ := Aside0.mk (Kd.R_elder' (by (with_reducible repeat (first | apply Kd.R_alloc | apply Kd.R_drewN | apply Kd.R_drew)); exact HO_6.out) (Kd.R_base ho0) hb)
           have n2_ := Aside0.mk (Kd.S_elder' (by (with_reducible repeat (first | apply Kd.S_alloc | apply Kd.S_drewN | apply Kd.S_drew)); exact HO_7.out) (Kd.R_base ho0) hb)
           have n3_ := Aside0.mk (Kd.R_elder' (by (with_reducible repeat (first | apply Kd.R_alloc | apply Kd.R_drewN | apply Kd.R_drew)); exact HL333_0.out) (Kd.R_base ho0) hb)
           have n4_ := Aside0.mk (Kd.R_lower (Kd.R_new' (Kd.R_new' (Kd.R_new' ho0 (Kd.R_lt (by (with_reducible repeat (first | apply Kd.R_alloc | apply Kd.R_drewN | apply Kd.R_drew)); exact HO_5.out))) (Kd.R_lt (by (with_reducible repeat (first | apply Kd.R_alloc | apply Kd.R_drewN | apply Kd.R_drew)); exact HO_6.out))) (Kd.R_lt (by (with_reducible repeat (first | apply Kd.R_alloc | apply Kd.R_drewN | apply Kd.R_drew)); exact HL333_0.out))) (below_size (by repeat (first | (with_reducible first | exact HB.out | apply below_alloc | apply pw_below_drewN | apply below_drew1) | exact HB.out))))
           have n5_ := Aside0.mk (Kd.C_below (by repeat (first | (with_reducible exact HR326.out) | (with_reducible refine Kd.C_alloc ?_ _) | (with_reducible refine Kd.C_drewN ?_ _) | (with_reducible refine Kd.C_drew ?_) | exact HR326.out)) hb)
           have n6_ := Aside0.mk (Kd.C_below (by repeat (first | (with_reducible exact HR333_0.out) | (with_reducible refine Kd.C_alloc ?_ _) | (with_reducible refine Kd.C_drewN ?_ _) | (with_reducible refine Kd.C_drew ?_) | exact HR333_0.out)) hb)
           have n7_ := Aside0.mk (below_step (by repeat (first | (with_reducible first | exact HB.out | apply below_alloc | apply pw_below_drewN | apply below_drew1) | exact HB.out)) hb)
           clear HO_5
           clear HO_6
           clear HO_7
           clear HL333_0
           clear HR326
           clear HR333_0
           clear HB
           have HO_5 := n0_
           have HO_6 := n1_
           have HO_7 := n2_
           have HL333_0 := n3_
           have HO337 := n4_
           have HR326 := n5_
           have HR333_0 := n6_
           have HB := n7_
           clear n0_ n1_ n2_ n3_ n4_ n5_ n6_ n7_
           (try clear hb)
           (try clear hb2)
           (try clear hk)
           (try clear hi)
           (try clear ho0)
           refine hK.out _ _ ⟨HS0_, HS1_⟩ (fun hHeld => ?_)
           clear hK K
           refine norm_ (a' := ?_) ?_ ?_
           rotate_left
           ·show Act.put _ (some 35) _ = _
            simp only [Act.put, List.setIfInBounds_toArray, List.set_cons_zero, List.set_cons_succ, i64_w, i32_w]
            rfl
           refine pure_ (i := 12) (N := some 6) (v := ?_) (a' := ?_) #[true, true, true, true, true, true, true, true, true, true, true, true, true] rfl rfl (any_of HT_.out (by kernel_rfl)) (fun _ _ _ h => h) (Or.inl ⟨by rfl, ?_⟩) ?_ ?_
           rotate_left
           ·intro w'
            go_simp
            with_reducible rfl
           rotate_left
           ·simp only [Act.put, List.setIfInBounds_toArray, List.set_cons_zero, List.set_cons_succ, i64_w, i32_w]
            rfl
           refine done_ (done_of HT_.out (by kernel_rfl)) ?_
           try go_wp2
           go_roundg k1
           case measure => have := HK1.out; omega
           case rel => exact ⟨(t335), (wrap64 (x21_1 + 1)), (by first | rfl | (simp; done) | (simp [*]; done)), H', ⟨by have := HK1.out; omega⟩, ⟨by (with_reducible repeat (first | apply Kd.R_alloc | apply Kd.R_drewN | apply Kd.R_drew)); exact Kd.R_mono HO_5.out (fun _ hk => by first | exact hk.2 | exact hk.1 | exact hk.1.1 | exact hk.1.2 | exact hk.2.1 | exact hk.2.2)⟩, ⟨by (with_reducible repeat (first | apply Kd.R_alloc | apply Kd.R_drewN | apply Kd.R_drew)); exact Kd.R_mono HO337.out (fun _ hk => hk.1.1.2)⟩, ⟨by (with_reducible repeat (first | apply Kd.S_alloc | apply Kd.S_drewN | apply Kd.S_drew)); exact Kd.S_mono HO_7.out (fun _ hk => ⟨hk.1.1, hk.2⟩)⟩, ⟨by repeat (first | (with_reducible exact HR326.out) | (with_reducible refine Kd.C_alloc ?_ _) | (with_reducible refine Kd.C_drewN ?_ _) | (with_reducible refine Kd.C_drew ?_) | exact HR326.out)⟩, ⟨by repeat (first | (with_reducible first | exact HB.out | apply below_alloc | apply pw_below_drewN | apply below_drew1) | exact HB.out)⟩⟩
          ·rw [if_neg c21] at H
           exact absurd H (by simp)
         ·rw [if_neg c20] at H
          exact absurd H (by simp)
        ·rw [if_neg c18] at H
         exact absurd H (by simp)
       ·rw [if_neg c17] at H
        exact absurd H (by simp)
      ·rw [if_neg c16] at H
       have c16b0 : decide (x21_1 < (t330.length : Int)) = false := decide_eq_false c16
       clear c16
       obtain rfl := Option.some.inj H
       go_wp2
       go_ret
       exact ⟨_, by first | rfl | (simp [errW_none, errW_some] <;> rfl) | (simp [*, errW_none, errW_some] <;> rfl), by (with_reducible repeat (first | apply Kd.R_alloc | apply Kd.R_drewN | apply Kd.R_drew)); exact Kd.R_mono HO_6.out (fun _ hk => trivial), by repeat (first | (with_reducible first | exact HB.out | apply below_alloc | apply pw_below_drewN | apply below_drew1) | exact HB.out)⟩
   ·rw [if_neg c6] at H
    exact absurd H (by simp)
  ·rw [if_neg c5] at H
   exact absurd H (by simp)
 ·rw [if_neg c4] at H
  exact absurd H (by simp)

end Go.Proofs.Ytcmigmldecacpaa.QEncodeSums
