/- Machine-made by a program of this claim: functions of the Go program as Lean functions, and that its calls do what these say. Lean checks it. -/
import Derived.Test.YtcmigmldecacpaaZQEncodeSumsx0
import Derived.Test.YtcmigmldecacpaaZQEncodeSumsx1
import Derived.Test.YtcmigmldecacpaaZGiv
import Derived.Test.YtcmigmldecacpaaZGivFill
import Derived.Test.YtcmigmldecacpaaZGivPicks
import Derived.Test.YtcmigmldecacpaaZGivSClone
namespace Go.Proofs.Ytcmigmldecacpaa.QEncodeSums
open Go.RowKit Go.Proofs.YtcmigmldecacpaaW.PrintWords Go.Proofs.YtcmigmldecacpaaW.PrintLast Go.Proofs.YtcmigmldecacpaaW.PrintMore Go.Proofs.Ytcmigmldecacpaa.Giv
attribute [local go_sem] max2_int min2_int max_two min_two max_three min_three max_four min_four   -- for this text's walks alone
set_option linter.unusedVariables false
set_option linter.unusedSimpArgs false

mutual
def geyserref03_Pow.j0 : Nat → Int → Int → Option (Int)
 | 0, _, _ => none
 | k + 1, x0, x1 => geyserref03_Pow.l0 k x0 1 x1 0
def geyserref03_Pow.l0 : Nat → Int → Int → Int → Int → Option (Int)
 | 0, _, _, _, _ => none
 | k + 1, x0, x5, x16, x17 => if x17 < x16 then ((geyserref03_Mul.f k x5 x0).bind fun t291 => (geyserref03_Pow.l0 k x0 t291 x16 (wrap64 (x17 + 1)))) else (some x5)
end
def geyserref03_Pow.f (k : Nat) (a0 : Int) (a1 : Int) : Option (Int) := if a1 = 0 then (some 1) else (if a0 = 0 then (some 0) else (if (Int.tmod a1 255) < 0 then (geyserref03_Pow.j0 k a0 (wrap64 ((Int.tmod a1 255) + 255))) else (geyserref03_Pow.j0 k a0 (Int.tmod a1 255))))
theorem geyserref03_Pow.mono_l : ∀ k, (∀ y0 y1, LeO (geyserref03_Pow.j0 k y0 y1) (geyserref03_Pow.j0 (k + 1) y0 y1)) ∧ (∀ y0 y1 y2 y3, LeO (geyserref03_Pow.l0 k y0 y1 y2 y3) (geyserref03_Pow.l0 (k + 1) y0 y1 y2 y3))
 | 0 => ⟨fun _ _ r h => by simp [geyserref03_Pow.j0] at h, fun _ _ _ _ r h => by simp [geyserref03_Pow.l0] at h⟩
 | k + 1 => by
  obtain ⟨ih0, ih1⟩ := geyserref03_Pow.mono_l k
  refine ⟨?_, ?_⟩
  ·intro y0 y1
   unfold geyserref03_Pow.j0
   repeat' first
   | (with_reducible exact ih0 _ _)
   | (with_reducible exact ih1 _ _ _ _)
   | (with_reducible exact geyserref03_Mul.mono _ _ _)
   | (with_reducible exact LeO.refl _)
   | (with_reducible exact LeO.none _)
   | (with_reducible refine LeO.ite ?_ ?_)
   | (with_reducible refine LeO.bind ?_ (fun _ => ?_))
   | exact ih0 _ _
   | exact ih1 _ _ _ _
   | exact geyserref03_Mul.mono _ _ _
   | exact LeO.none _
   | refine LeO.ite ?_ ?_
   | refine LeO.bind ?_ (fun _ => ?_)
  ·intro y0 y1 y2 y3
   unfold geyserref03_Pow.l0
   repeat' first
   | (with_reducible exact ih0 _ _)
   | (with_reducible exact ih1 _ _ _ _)
   | (with_reducible exact geyserref03_Mul.mono _ _ _)
   | (with_reducible exact LeO.refl _)
   | (with_reducible exact LeO.none _)
   | (with_reducible refine LeO.ite ?_ ?_)
   | (with_reducible refine LeO.bind ?_ (fun _ => ?_))
   | exact ih0 _ _
   | exact ih1 _ _ _ _
   | exact geyserref03_Mul.mono _ _ _
   | exact LeO.none _
   | refine LeO.ite ?_ ?_
   | refine LeO.bind ?_ (fun _ => ?_)
theorem geyserref03_Pow.mono : ∀ a0 a1 k, LeO (geyserref03_Pow.f k a0 a1) (geyserref03_Pow.f (k + 1) a0 a1) := by
 intro a0 a1 k
 obtain ⟨ih0, ih1⟩ := geyserref03_Pow.mono_l k
 unfold geyserref03_Pow.f
 repeat' first
   | (with_reducible exact ih0 _ _)
   | (with_reducible exact ih1 _ _ _ _)
   | (with_reducible exact geyserref03_Mul.mono _ _ _)
   | (with_reducible exact LeO.refl _)
   | (with_reducible exact LeO.none _)
   | (with_reducible refine LeO.ite ?_ ?_)
   | (with_reducible refine LeO.bind ?_ (fun _ => ?_))
   | exact ih0 _ _
   | exact ih1 _ _ _ _
   | exact geyserref03_Mul.mono _ _ _
   | exact LeO.none _
   | refine LeO.ite ?_ ?_
   | refine LeO.bind ?_ (fun _ => ?_)
set_option maxHeartbeats 8000000 in
set_option maxRecDepth 100000 in
theorem geyserref03_Pow.calls (k : Nat) (a0 : Int) (a1 : Int) (r : Int) (w : World) (h : geyserref03_Pow.f k a0 a1 = some r) :
  Calls Try.prog 64 #[.int .u8 a0, .int .i64 a1] w fun e w' => e = .returned (.int .u8 r) ∧ Drawn0 w w' := by
 have H : (if a1 = 0 then (some 1) else (if a0 = 0 then (some 0) else (if (Int.tmod a1 255) < 0 then (geyserref03_Pow.j0 k a0 (wrap64 ((Int.tmod a1 255) + 255))) else (geyserref03_Pow.j0 k a0 (Int.tmod a1 255))))) = some r := h
 clear h
 by_cases c3 : a1 = 0
 ·rw [if_pos c3] at H
  have c3b0 : (a1 == 0) = true := beq_iff_eq.mpr c3
  have c3b1 : (a1 != 0) = false := bne_eq_false_iff_eq.mpr c3
  clear c3
  obtain rfl := Option.some.inj H
  go_enter Try.func64, Try.ntmps64
  go_wp2
  go_ret
  exact ⟨by first | rfl | (simp; done) | (simp [*]; done), by repeat (first | exact Drawn0.refl _ | apply Drawn0.step)⟩
 ·rw [if_neg c3] at H
  have c3b0 : (a1 == 0) = false := beq_eq_false_iff_ne.mpr c3
  have c3b1 : (a1 != 0) = true := bne_iff_ne.mpr c3
  by_cases c4 : a0 = 0
  ·rw [if_pos c4] at H
   have c4b0 : (a0 == 0) = true := beq_iff_eq.mpr c4
   have c4b1 : (a0 != 0) = false := bne_eq_false_iff_eq.mpr c4
   clear c4
   obtain rfl := Option.some.inj H
   go_enter Try.func64, Try.ntmps64
   go_wp2
   go_ret
   exact ⟨by first | rfl | (simp; done) | (simp [*]; done), by repeat (first | exact Drawn0.refl _ | apply Drawn0.step)⟩
  ·rw [if_neg c4] at H
   have c4b0 : (a0 == 0) = false := beq_eq_false_iff_ne.mpr c4
   have c4b1 : (a0 != 0) = true := bne_iff_ne.mpr c4
   have HC5 := Aside0.mk H
   clear H
   go_enter Try.func64, Try.ntmps64
   go_upto_if 13 with (fail)
   go_cut [1] (fun v1 wc => ∃ (kq : Nat) (x1_4 : Int), v1 = .int .i64 x1_4 ∧ Aside0 (geyserref03_Pow.j0 kq a0 x1_4 = some r) ∧ Aside0 (kq ≤ k) ∧ Drawn0 w wc)
   case first =>
    have H := HC5.out
    clear HC5
    by_cases c6 : (Int.tmod a1 255) < 0
    ·rw [if_pos c6] at H
     have c6b0 : decide ((Int.tmod a1 255) < 0) = true := decide_eq_true c6
     clear c6
     (first | rw [c6b0] | (simp only [i64_w, i32_w]; rw [c6b0]) | skip)
     have H' := Aside0.mk H
     clear H
     go_wp2
     go_meet
     case rel => exact ⟨_, (wrap64 ((Int.tmod a1 255) + 255)), (by first | rfl | (simp; done) | (simp [*]; done)), H', ⟨by first | omega | exact Nat.le_refl _⟩, by repeat (first | exact Drawn0.refl _ | apply Drawn0.step)⟩
    ·rw [if_neg c6] at H
     have c6b0 : decide ((Int.tmod a1 255) < 0) = false := decide_eq_false c6
     clear c6
     (first | rw [c6b0] | (simp only [i64_w, i32_w]; rw [c6b0]) | skip)
     have H' := Aside0.mk H
     clear H
     go_wp2
     go_meet
     case rel => exact ⟨_, (Int.tmod a1 255), (by first | rfl | (simp; done) | (simp [*]; done)), H', ⟨by first | omega | exact Nat.le_refl _⟩, by repeat (first | exact Drawn0.refl _ | apply Drawn0.step)⟩
   case rest =>
    clear HC5
    try clear p2
    try clear c3
    try clear c3b0
    try clear c3b1
    try clear c4
    try clear c4b0
    try clear c4b1
    try clear c6
    try clear c6b0
    try clear p6
    obtain ⟨kq, x1_4, rfl, HA, HJ4, ⟨mc4, rfl⟩⟩ := hcut
    cases kq with
    | zero => exact absurd HA.out (by simp [geyserref03_Pow.j0])
    | succ kj4 =>
     have H := HA.out
     clear HA
     simp only [geyserref03_Pow.j0] at H
     have H' := Aside0.mk H
     clear H
     go_wp2
     go_loopg [5, 17] kj4 (fun kq v5 v17 w' => ∃ (x5_2 : Int) (x17_2 : Int), v5 = .int .u8 x5_2 ∧ v17 = .int .i64 x17_2 ∧ Aside0 (geyserref03_Pow.l0 kq a0 x5_2 x1_4 x17_2 = some r) ∧ Aside0 (kq ≤ kj4) ∧ Drawn0 w w')
     case atStart => exact ⟨(1), (0), (by first | rfl | (simp; done) | (simp [*]; done)), (by first | rfl | (simp; done) | (simp [*]; done)), H', ⟨Nat.le_refl _⟩, by repeat (first | exact Drawn0.refl _ | apply Drawn0.step)⟩
     case round =>
      clear H'
      try clear p2
      try clear c3
      try clear c3b0
      try clear c3b1
      try clear c4
      try clear c4b0
      try clear c4b1
      try clear c6
      try clear c6b0
      try clear p6
      try clear p2
      try clear p6
      obtain ⟨x5_2, x17_2, rfl, rfl, HA, HK2, ⟨m2, rfl⟩⟩ := hrel
      cases gk with
      | zero => exact absurd HA.out (by simp [geyserref03_Pow.l0])
      | succ k2 =>
       have H := HA.out
       clear HA
       simp only [geyserref03_Pow.l0] at H
       by_cases c7 : x17_2 < x1_4
       ·rw [if_pos c7] at H
        have c7b0 : decide (x17_2 < x1_4) = true := decide_eq_true c7
        clear c7
        replace H := Option.bind_eq_some_iff.mp H
        obtain ⟨t291, A80, H⟩ := H
        replace H : (geyserref03_Pow.l0 k2 a0 t291 x1_4 (wrap64 (x17_2 + 1))) = some r := H
        have A8 := Aside0.mk A80
        clear A80
        have H' := Aside0.mk H
        clear H
        go_wp2_with (first | ((with_reducible refine gate_callee (f := 40) rfl ?_); refine goesL_ (some 21) rfl rfl Try.func40 (by kernel_rfl) rfl #[.int .u8 x5_2, .int .u8 a0] rfl (by (try simp only [List.map_toArray, List.map_cons, List.map_nil]); first | done | rfl | (simp only [List.length_drop, List.length_take]; rfl)) ?_; (with_reducible refine (geyserref03_Mul.calls k2 x5_2 a0 t291 _ A8.out).mono ?_); rintro e w' ⟨rfl, ⟨nd, rfl⟩⟩; refine ⟨_, rfl, ?_⟩))
        go_roundg k2
        case measure => have := HJ4.out; have := HK2.out; omega
        case rel => exact ⟨(t291), (wrap64 (x17_2 + 1)), (by first | rfl | (simp; done) | (simp [*]; done)), (by first | rfl | (simp; done) | (simp [*]; done)), H', ⟨by have := HJ4.out; have := HK2.out; omega⟩, by repeat (first | exact Drawn0.refl _ | apply Drawn0.step)⟩
       ·rw [if_neg c7] at H
        have c7b0 : decide (x17_2 < x1_4) = false := decide_eq_false c7
        clear c7
        obtain rfl := Option.some.inj H
        go_wp2
        go_ret
        exact ⟨by first | rfl | (simp; done) | (simp [*]; done), by repeat (first | exact Drawn0.refl _ | apply Drawn0.step)⟩

mutual
def geyserref03_Parities.j0 : Nat → Int → Int → Option ((List (List Int)))
 | 0, _, _ => none
 | k + 1, x0, x3 => geyserref03_Parities.l0 k x0 x3 ([] : List (List Int)) (wrap64 (x3 + 2)) 0
def geyserref03_Parities.l0 : Nat → Int → Int → List (List Int) → Int → Int → Option ((List (List Int)))
 | 0, _, _, _, _, _ => none
 | k + 1, x0, x3, x4, x17, x18 => if x18 < x17 then (if 0 ≤ x0 then (if (x0 : Int).toNat ≤ 281474976710656 then (geyserref03_Parities.l1 k x0 x3 x4 x18 (List.replicate (x0 : Int).toNat 0) x17 x18 x0 0) else (none)) else (none)) else (some x4)
def geyserref03_Parities.l1 : Nat → Int → Int → List (List Int) → Int → List Int → Int → Int → Int → Int → Option ((List (List Int)))
 | 0, _, _, _, _, _, _, _, _, _ => none
 | k + 1, x0, x3, x4, x5, x6, x17, x18, x23, x24 => if x24 < x23 then (if x5 < x3 then (if x3 = 0 then (none) else (if (Int.tmod x24 x3) = x5 then (geyserref03_Parities.j3 k x0 x3 x4 x5 x6 x24 x17 x18 x23 x24 true) else (geyserref03_Parities.j3 k x0 x3 x4 x5 x6 x24 x17 x18 x23 x24 ((Int.tmod (wrap64 ((wrap64 (3 * x24)) + 1)) x3) == x5)))) else (geyserref03_Parities.j3 k x0 x3 x4 x5 x6 x24 x17 x18 x23 x24 false)) else (if x4.length < 5864062014805 then (geyserref03_Parities.l0 k x0 x3 (x4 ++ [x6]) x17 (wrap64 (x18 + 1))) else (none))
def geyserref03_Parities.j3 : Nat → Int → Int → List (List Int) → Int → List Int → Int → Int → Int → Int → Int → Bool → Option ((List (List Int)))
 | 0, _, _, _, _, _, _, _, _, _, _, _ => none
 | k + 1, x0, x3, x4, x5, x6, x7, x17, x18, x23, x24, x27 => if x27 = true then (if 0 ≤ x7 then (if x7 < (x6.length : Int) then (geyserref03_Parities.l1 k x0 x3 x4 x5 (x6.set (x7 : Int).toNat 1) x17 x18 x23 (wrap64 (x24 + 1))) else (none)) else (none)) else (if x5 = x3 then ((geyserref03_Pow.f k 2 (wrap64 (x7 + 1))).bind fun t299 => (if 0 ≤ x7 then (if x7 < (x6.length : Int) then (geyserref03_Parities.l1 k x0 x3 x4 x5 (x6.set (x7 : Int).toNat t299) x17 x18 x23 (wrap64 (x24 + 1))) else (none)) else (none))) else (if x5 = (wrap64 (x3 + 1)) then ((geyserref03_Pow.f k 2 (wrap64 (2 * (wrap64 (x7 + 1))))).bind fun t301 => (if 0 ≤ x7 then (if x7 < (x6.length : Int) then (geyserref03_Parities.l1 k x0 x3 x4 x5 (x6.set (x7 : Int).toNat t301) x17 x18 x23 (wrap64 (x24 + 1))) else (none)) else (none))) else (geyserref03_Parities.l1 k x0 x3 x4 x5 x6 x17 x18 x23 (wrap64 (x24 + 1)))))
end
def geyserref03_Parities.f (k : Nat) (a0 : Int) : Option ((List (List Int))) := if (Int.tmod a0 8) > 0 then (geyserref03_Parities.j0 k a0 (wrap64 ((wrap64 ((wrap64 (Int.tdiv a0 8)) + 1)) + 1))) else (geyserref03_Parities.j0 k a0 (wrap64 ((wrap64 (Int.tdiv a0 8)) + 1)))
theorem geyserref03_Parities.mono_l : ∀ k, (∀ y0 y1, LeO (geyserref03_Parities.j0 k y0 y1) (geyserref03_Parities.j0 (k + 1) y0 y1)) ∧ (∀ y0 y1 y2 y3 y4, LeO (geyserref03_Parities.l0 k y0 y1 y2 y3 y4) (geyserref03_Parities.l0 (k + 1) y0 y1 y2 y3 y4)) ∧ (∀ y0 y1 y2 y3 y4 y5 y6 y7 y8, LeO (geyserref03_Parities.l1 k y0 y1 y2 y3 y4 y5 y6 y7 y8) (geyserref03_Parities.l1 (k + 1) y0 y1 y2 y3 y4 y5 y6 y7 y8)) ∧ (∀ y0 y1 y2 y3 y4 y5 y6 y7 y8 y9 y10, LeO (geyserref03_Parities.j3 k y0 y1 y2 y3 y4 y5 y6 y7 y8 y9 y10) (geyserref03_Parities.j3 (k + 1) y0 y1 y2 y3 y4 y5 y6 y7 y8 y9 y10))
 | 0 => ⟨fun _ _ r h => by simp [geyserref03_Parities.j0] at h, fun _ _ _ _ _ r h => by simp [geyserref03_Parities.l0] at h, fun _ _ _ _ _ _ _ _ _ r h => by simp [geyserref03_Parities.l1] at h, fun _ _ _ _ _ _ _ _ _ _ _ r h => by simp [geyserref03_Parities.j3] at h⟩
 | k + 1 => by
  obtain ⟨ih0, ih1, ih2, ih3⟩ := geyserref03_Parities.mono_l k
  refine ⟨?_, ?_, ?_, ?_⟩
  ·intro y0 y1
   unfold geyserref03_Parities.j0
   repeat' first
   | (with_reducible exact ih0 _ _)
   | (with_reducible exact ih1 _ _ _ _ _)
   | (with_reducible exact ih2 _ _ _ _ _ _ _ _ _)
   | (with_reducible exact ih3 _ _ _ _ _ _ _ _ _ _ _)
   | (with_reducible exact geyserref03_Pow.mono _ _ _)
   | (with_reducible exact LeO.refl _)
   | (with_reducible exact LeO.none _)
   | (with_reducible refine LeO.ite ?_ ?_)
   | (with_reducible refine LeO.bind ?_ (fun _ => ?_))
   | exact ih0 _ _
   | exact ih1 _ _ _ _ _
   | exact ih2 _ _ _ _ _ _ _ _ _
   | exact ih3 _ _ _ _ _ _ _ _ _ _ _
   | exact geyserref03_Pow.mono _ _ _
   | exact LeO.none _
   | refine LeO.ite ?_ ?_
   | refine LeO.bind ?_ (fun _ => ?_)
  ·intro y0 y1 y2 y3 y4
   unfold geyserref03_Parities.l0
   repeat' first
   | (with_reducible exact ih0 _ _)
   | (with_reducible exact ih1 _ _ _ _ _)
   | (with_reducible exact ih2 _ _ _ _ _ _ _ _ _)
   | (with_reducible exact ih3 _ _ _ _ _ _ _ _ _ _ _)
   | (with_reducible exact geyserref03_Pow.mono _ _ _)
   | (with_reducible exact LeO.refl _)
   | (with_reducible exact LeO.none _)
   | (with_reducible refine LeO.ite ?_ ?_)
   | (with_reducible refine LeO.bind ?_ (fun _ => ?_))
   | exact ih0 _ _
   | exact ih1 _ _ _ _ _
   | exact ih2 _ _ _ _ _ _ _ _ _
   | exact ih3 _ _ _ _ _ _ _ _ _ _ _
   | exact geyserref03_Pow.mono _ _ _
   | exact LeO.none _
   | refine LeO.ite ?_ ?_
   | refine LeO.bind ?_ (fun _ => ?_)
  ·intro y0 y1 y2 y3 y4 y5 y6 y7 y8
   unfold geyserref03_Parities.l1
   repeat' first
   | (with_reducible exact ih0 _ _)
   | (with_reducible exact ih1 _ _ _ _ _)
   | (with_reducible exact ih2 _ _ _ _ _ _ _ _ _)
   | (with_reducible exact ih3 _ _ _ _ _ _ _ _ _ _ _)
   | (with_reducible exact geyserref03_Pow.mono _ _ _)
   | (with_reducible exact LeO.refl _)
   | (with_reducible exact LeO.none _)
   | (with_reducible refine LeO.ite ?_ ?_)
   | (with_reducible refine LeO.bind ?_ (fun _ => ?_))
   | exact ih0 _ _
   | exact ih1 _ _ _ _ _
   | exact ih2 _ _ _ _ _ _ _ _ _
   | exact ih3 _ _ _ _ _ _ _ _ _ _ _
   | exact geyserref03_Pow.mono _ _ _
   | exact LeO.none _
   | refine LeO.ite ?_ ?_
   | refine LeO.bind ?_ (fun _ => ?_)
  ·intro y0 y1 y2 y3 y4 y5 y6 y7 y8 y9 y10
   unfold geyserref03_Parities.j3
   repeat' first
   | (with_reducible exact ih0 _ _)
   | (with_reducible exact ih1 _ _ _ _ _)
   | (with_reducible exact ih2 _ _ _ _ _ _ _ _ _)
   | (with_reducible exact ih3 _ _ _ _ _ _ _ _ _ _ _)
   | (with_reducible exact geyserref03_Pow.mono _ _ _)
   | (with_reducible exact LeO.refl _)
   | (with_reducible exact LeO.none _)
   | (with_reducible refine LeO.ite ?_ ?_)
   | (with_reducible refine LeO.bind ?_ (fun _ => ?_))
   | exact ih0 _ _
   | exact ih1 _ _ _ _ _
   | exact ih2 _ _ _ _ _ _ _ _ _
   | exact ih3 _ _ _ _ _ _ _ _ _ _ _
   | exact geyserref03_Pow.mono _ _ _
   | exact LeO.none _
   | refine LeO.ite ?_ ?_
   | refine LeO.bind ?_ (fun _ => ?_)
theorem geyserref03_Parities.mono : ∀ a0 k, LeO (geyserref03_Parities.f k a0) (geyserref03_Parities.f (k + 1) a0) := by
 intro a0 k
 obtain ⟨ih0, ih1, ih2, ih3⟩ := geyserref03_Parities.mono_l k
 unfold geyserref03_Parities.f
 repeat' first
   | (with_reducible exact ih0 _ _)
   | (with_reducible exact ih1 _ _ _ _ _)
   | (with_reducible exact ih2 _ _ _ _ _ _ _ _ _)
   | (with_reducible exact ih3 _ _ _ _ _ _ _ _ _ _ _)
   | (with_reducible exact geyserref03_Pow.mono _ _ _)
   | (with_reducible exact LeO.refl _)
   | (with_reducible exact LeO.none _)
   | (with_reducible refine LeO.ite ?_ ?_)
   | (with_reducible refine LeO.bind ?_ (fun _ => ?_))
   | exact ih0 _ _
   | exact ih1 _ _ _ _ _
   | exact ih2 _ _ _ _ _ _ _ _ _
   | exact ih3 _ _ _ _ _ _ _ _ _ _ _
   | exact geyserref03_Pow.mono _ _ _
   | exact LeO.none _
   | refine LeO.ite ?_ ?_
   | refine LeO.bind ?_ (fun _ => ?_)
set_option maxHeartbeats 8000000 in
set_option maxRecDepth 100000 in
theorem geyserref03_Parities.calls (k : Nat) (a0 : Int) (r : List (List Int)) (w : World) (h : geyserref03_Parities.f k a0 = some r) :
  Calls Try.prog 32 #[.int .i64 a0] w fun e w' => ∃ v0_ : Value, e = .returned (v0_) ∧ Kd.S (Kd.slice 5 (Kd.int .u8)) 31 w' w.heap.size (fun _ => True) v0_ r ∧ Below w.heap.size w w' := by
 have HB := Aside0.mk (Below.refl w.heap.size w)
 have H : (if (Int.tmod a0 8) > 0 then (geyserref03_Parities.j0 k a0 (wrap64 ((wrap64 ((wrap64 (Int.tdiv a0 8)) + 1)) + 1))) else (geyserref03_Parities.j0 k a0 (wrap64 ((wrap64 (Int.tdiv a0 8)) + 1)))) = some r := h
 clear h
 have HC2 := Aside0.mk H
 clear H
 go_enter Try.func32, Try.ntmps32
 go_upto_if 13 with (fail)
 go_cut [3] (fun v3 wc => ∃ (kq : Nat) (x3_1 : Int), v3 = .int .i64 x3_1 ∧ Aside0 (geyserref03_Parities.j0 kq a0 x3_1 = some r) ∧ Aside0 (kq ≤ k) ∧ Aside0 (Below w.heap.size w wc))
 case first =>
  have H := HC2.out
  clear HC2
  by_cases c3 : (Int.tmod a0 8) > 0
  ·rw [if_pos c3] at H
   have c3b0 : decide (0 < (Int.tmod a0 8)) = true := decide_eq_true c3
   clear c3
   (first | rw [c3b0] | (simp only [i64_w, i32_w]; rw [c3b0]) | skip)
   have H' := Aside0.mk H
   clear H
   go_wp2
   go_meet
   case rel => exact ⟨_, (wrap64 ((wrap64 ((wrap64 (Int.tdiv a0 8)) + 1)) + 1)), (by first | rfl | (simp; done) | (simp [*]; done)), H', ⟨by first | omega | exact Nat.le_refl _⟩, ⟨by repeat (first | (with_reducible first | exact HB.out | apply below_alloc | apply pw_below_drewN | apply below_drew1) | exact HB.out)⟩⟩
  ·rw [if_neg c3] at H
   have c3b0 : decide (0 < (Int.tmod a0 8)) = false := decide_eq_false c3
   clear c3
   (first | rw [c3b0] | (simp only [i64_w, i32_w]; rw [c3b0]) | skip)
   have H' := Aside0.mk H
   clear H
   go_wp2
   go_meet
   case rel => exact ⟨_, (wrap64 ((wrap64 (Int.tdiv a0 8)) + 1)), (by first | rfl | (simp; done) | (simp [*]; done)), H', ⟨by first | omega | exact Nat.le_refl _⟩, ⟨by repeat (first | (with_reducible first | exact HB.out | apply below_alloc | apply pw_below_drewN | apply below_drew1) | exact HB.out)⟩⟩
 case rest =>
  clear HC2
  try clear p2
  try clear c3
  try clear c3b0
  obtain ⟨kq, x3_1, rfl, HA, HJ1, HB⟩ := hcut
  cases kq with
  | zero => exact absurd HA.out (by simp [geyserref03_Parities.j0])
  | succ kj1 =>
   have H := HA.out
   clear HA
   simp only [geyserref03_Parities.j0] at H
   have H' := Aside0.mk H
   clear H
   go_wp2
   go_loopg [4, 18] kj1 (fun kq v4 v18 w' => ∃ (x4_2 : List (List Int)) (x18_2 : Int), v18 = .int .i64 x18_2 ∧ Aside0 (geyserref03_Parities.l0 kq a0 x3_1 x4_2 (wrap64 (x3_1 + 2)) x18_2 = some r) ∧ Aside0 (kq ≤ kj1) ∧ Aside0 (Kd.S (Kd.slice 5 (Kd.int .u8)) 31 w' w.heap.size (fun _ => True) v4 x4_2) ∧ Aside0 (Below w.heap.size w w'))
   case atStart => exact ⟨(([] : List (List Int))), (0), (by first | rfl | (simp; done) | (simp [*]; done)), H', ⟨Nat.le_refl _⟩, ⟨by first | exact Kd.S_nil _ _ _ _ _ | exact Kd.N_nil _ _ _ _ _ | exact Kd.V_nil _ _ _ _ _ | exact Kd.Q_nil _ _ _ _ _ | exact Kd.R_nil _ _ _ _ _⟩, ⟨by repeat (first | (with_reducible first | exact HB.out | apply below_alloc | apply pw_below_drewN | apply below_drew1) | exact HB.out)⟩⟩
   case round =>
    clear H'
    try clear p2
    try clear c3
    try clear c3b0
    try clear p2
    obtain ⟨x4_2, x18_2, rfl, HA, HK2, HO_4, HB⟩ := hrel
    cases gk with
    | zero => exact absurd HA.out (by simp [geyserref03_Parities.l0])
    | succ k2 =>
     have H := HA.out
     clear HA
     simp only [geyserref03_Parities.l0] at H
     by_cases c4 : x18_2 < (wrap64 (x3_1 + 2))
     ·rw [if_pos c4] at H
      have c4b0 : decide (x18_2 < (wrap64 (x3_1 + 2))) = true := decide_eq_true c4
      clear c4
      by_cases c5 : 0 ≤ a0
      ·rw [if_pos c5] at H
       have c5b0 := eq_true c5
       have c5b1 : decide (0 ≤ a0) = true := decide_eq_true c5
       clear c5
       by_cases c6 : (a0 : Int).toNat ≤ 281474976710656
       ·rw [if_pos c6] at H
        have c6b0 := eq_true c6
        have c6b1 : decide ((a0 : Int).toNat ≤ 281474976710656) = true := decide_eq_true c6
        clear c6
        obtain ⟨y292, hy292⟩ : ∃ y_ : List Int, y_ = (List.replicate (a0 : Int).toNat 0) := ⟨_, rfl⟩
        replace H : (geyserref03_Parities.l1 k2 a0 x3_1 x4_2 x18_2 y292 (wrap64 (x3_1 + 2)) x18_2 a0 0) = some r := by first | (rw [hy292]; with_reducible exact H) | (have H2_ := (Option.bind_some _ _).symm.trans H; rw [hy292]; with_reducible exact H2_) | (have H2_ := (Option.bind_some _ _).symm.trans H; with_reducible exact H2_) | with_reducible exact H | (rw [hy292]; exact H) | exact H
        have Ny292 := Aside0.mk hy292
        clear hy292
        have H' := Aside0.mk H
        clear H
        go_wp2_with (first | ((with_reducible refine gate_dst (N := 22) rfl ?_); refine Kd.R_make (Kd.int .u8) _ 5 rfl (N := 22) rfl 31 _ _ rfl a0 rfl rfl Try.underlying31 (.int .u8 0) 1 info5 rfl (by decide) (by omega) 0 (ok := fun _ => True) (okp := fun _ => True) rfl (fun _ hk => hk) trivial (of_decide_eq_true (by first | (with_reducible assumption) | assumption)) (Nat.le_trans (Nat.mul_le_mul_right _ (of_decide_eq_true (by first | (with_reducible assumption) | assumption) : a0.toNat ≤ 281474976710656)) (by omega)) (Below.refl _ _) (Nat.le_refl _) ?_; intro v293 w7 ho8 hb hg_ hnew_; clear hg_ hnew_; (first | rw [← Ny292.out] at ho8 | (simp only [Int.reduceToNat] at ho8; rw [← Ny292.out] at ho8)); have n0_ := Aside0.mk (Kd.S_elder' (by (with_reducible repeat (first | apply Kd.S_alloc | apply Kd.S_drewN | apply Kd.S_drew)); exact HO_4.out) (Kd.R_base ho8) hb); have n1_ := Aside0.mk (Kd.R_lower ho8 (below_size (by repeat (first | (with_reducible first | exact HB.out | apply below_alloc | apply pw_below_drewN | apply below_drew1) | exact HB.out)))); have n2_ := Aside0.mk (below_step (by repeat (first | (with_reducible first | exact HB.out | apply below_alloc | apply pw_below_drewN | apply below_drew1) | exact HB.out)) hb); clear HO_4; clear HB; have HO_4 := n0_; have HO294 := n1_; have HB := n2_; clear n0_ n1_ n2_; clear hb ho8))
        go_loopg [24] k2 (fun kq v24 w' => ∃ (x6_3 : List Int) (x24_3 : Int), v24 = .int .i64 x24_3 ∧ Aside0 (geyserref03_Parities.l1 kq a0 x3_1 x4_2 x18_2 x6_3 (wrap64 (x3_1 + 2)) x18_2 a0 x24_3 = some r) ∧ Aside0 (kq ≤ k2) ∧ Aside0 (Kd.S (Kd.slice 5 (Kd.int .u8)) 31 w' w.heap.size (fun k_ => some k_ ≠ (v293 : Value).ownBlock) u4 x4_2) ∧ Aside0 (Kd.R (Kd.int .u8) 5 w' w.heap.size (fun _ => True) v293 x6_3) ∧ Aside0 (Below w.heap.size w w'))
        case atStart => exact ⟨(y292), (0), (by first | rfl | (simp; done) | (simp [*]; done)), H', ⟨Nat.le_refl _⟩, ⟨by (with_reducible repeat (first | apply Kd.S_alloc | apply Kd.S_drewN | apply Kd.S_drew)); exact Kd.S_mono HO_4.out (fun _ hk => by first | exact hk.2 | exact hk.1 | exact hk.1.1 | exact hk.1.2 | exact hk.2.1 | exact hk.2.2)⟩, ⟨by (with_reducible repeat (first | apply Kd.R_alloc | apply Kd.R_drewN | apply Kd.R_drew)); exact HO294.out⟩, ⟨by repeat (first | (with_reducible first | exact HB.out | apply below_alloc | apply pw_below_drewN | apply below_drew1) | exact HB.out)⟩⟩
        case round =>
         clear H'
         try clear p2
         try clear c3
         try clear c3b0
         try clear c4
         try clear c4b0
         try clear c5
         try clear c5b0
         try clear c5b1
         try clear c6
         try clear c6b0
         try clear c6b1
         try clear p6
         try clear p2
         obtain ⟨x6_3, x24_3, rfl, HA, HK3, HO_4, HO_6, HB⟩ := hrel
         cases gk with
         | zero => exact absurd HA.out (by simp [geyserref03_Parities.l1])
         | succ k3 =>
          have H := HA.out
          clear HA
          simp only [geyserref03_Parities.l1] at H
          by_cases c9 : x24_3 < a0
          ·rw [if_pos c9] at H
           have c9b0 : decide (x24_3 < a0) = true := decide_eq_true c9
           clear c9
           have HC10 := Aside0.mk H
           clear H
           go_upto_region 12 with (fail)
           go_cut [27] (fun v27 wc => ∃ (kq : Nat) (x27_9 : Bool), v27 = .bool x27_9 ∧ Aside0 (geyserref03_Parities.j3 kq a0 x3_1 x4_2 x18_2 x6_3 x24_3 (wrap64 (x3_1 + 2)) x18_2 a0 x24_3 x27_9 = some r) ∧ Aside0 (kq ≤ k3) ∧ Aside0 (Kd.S (Kd.slice 5 (Kd.int .u8)) 31 wc w.heap.size (fun k_ => some k_ ≠ (v293 : Value).ownBlock) u4 x4_2) ∧ Aside0 (Kd.R (Kd.int .u8) 5 wc w.heap.size (fun _ => True) v293 x6_3) ∧ Aside0 (Below w.heap.size w wc))
           case first =>
            have H := HC10.out
            clear HC10
            by_cases c11 : x18_2 < x3_1
            ·rw [if_pos c11] at H
             have c11b0 : decide (x18_2 < x3_1) = true := decide_eq_true c11
             clear c11
             (first | rw [c11b0] | (simp only [i64_w, i32_w]; rw [c11b0]) | skip)
             by_cases c12 : x3_1 = 0
             ·rw [if_pos c12] at H
              exact absurd H (by simp)
             ·rw [if_neg c12] at H
              have c12b0 : (x3_1 == 0) = false := beq_eq_false_iff_ne.mpr c12
              have c12b1 : (x3_1 != 0) = true := bne_iff_ne.mpr c12
              by_cases c13 : (Int.tmod x24_3 x3_1) = x18_2
              ·rw [if_pos c13] at H
               have c13b0 : ((Int.tmod x24_3 x3_1) == x18_2) = true := beq_iff_eq.mpr c13
               have c13b1 : ((Int.tmod x24_3 x3_1) != x18_2) = false := bne_eq_false_iff_eq.mpr c13
               clear c13
               have H' := Aside0.mk H
               clear H
               go_wp2
               go_meet
               case rel => exact ⟨_, (true), (by first | rfl | (simp; done) | (simp [*]; done)), H', ⟨by have := HJ1.out; have := HK2.out; have := HK3.out; first | omega | exact Nat.le_refl _⟩, ⟨by (with_reducible repeat (first | apply Kd.S_alloc | apply Kd.S_drewN | apply Kd.S_drew)); exact HO_4.out⟩, ⟨by (with_reducible repeat (first | apply Kd.R_alloc | apply Kd.R_drewN | apply Kd.R_drew)); exact HO_6.out⟩, ⟨by repeat (first | (with_reducible first | exact HB.out | apply below_alloc | apply pw_below_drewN | apply below_drew1) | exact HB.out)⟩⟩
              ·rw [if_neg c13] at H
               have c13b0 : ((Int.tmod x24_3 x3_1) == x18_2) = false := beq_eq_false_iff_ne.mpr c13
               have c13b1 : ((Int.tmod x24_3 x3_1) != x18_2) = true := bne_iff_ne.mpr c13
               have H' := Aside0.mk H
               clear H
               go_wp2
               go_meet
               case rel => exact ⟨_, (((Int.tmod (wrap64 ((wrap64 (3 * x24_3)) + 1)) x3_1) == x18_2)), (by first | rfl | (simp; done) | (simp [*]; done)), H', ⟨by have := HJ1.out; have := HK2.out; have := HK3.out; first | omega | exact Nat.le_refl _⟩, ⟨by (with_reducible repeat (first | apply Kd.S_alloc | apply Kd.S_drewN | apply Kd.S_drew)); exact HO_4.out⟩, ⟨by (with_reducible repeat (first | apply Kd.R_alloc | apply Kd.R_drewN | apply Kd.R_drew)); exact HO_6.out⟩, ⟨by repeat (first | (with_reducible first | exact HB.out | apply below_alloc | apply pw_below_drewN | apply below_drew1) | exact HB.out)⟩⟩
            ·rw [if_neg c11] at H
             have c11b0 : decide (x18_2 < x3_1) = false := decide_eq_false c11
             clear c11
             (first | rw [c11b0] | (simp only [i64_w, i32_w]; rw [c11b0]) | skip)
             have H' := Aside0.mk H
             clear H
             go_wp2
             go_meet
             case rel => exact ⟨_, (false), (by first | rfl | (simp; done) | (simp [*]; done)), H', ⟨by have := HJ1.out; have := HK2.out; have := HK3.out; first | omega | exact Nat.le_refl _⟩, ⟨by (with_reducible repeat (first | apply Kd.S_alloc | apply Kd.S_drewN | apply Kd.S_drew)); exact HO_4.out⟩, ⟨by (with_reducible repeat (first | apply Kd.R_alloc | apply Kd.R_drewN | apply Kd.R_drew)); exact HO_6.out⟩, ⟨by repeat (first | (with_reducible first | exact HB.out | apply below_alloc | apply pw_below_drewN | apply below_drew1) | exact HB.out)⟩⟩
           case rest =>
            clear HC10
            try clear c1
            try clear p2
            try clear c3
            try clear c3b0
            try clear c4
            try clear c4b0
            try clear c5
            try clear c5b0
            try clear c5b1
            try clear c6
            try clear c6b0
            try clear c6b1
            try clear p6
            try clear c9
            try clear c9b0
            try clear c11
            try clear c11b0
            try clear c12
            try clear c12b0
            try clear c12b1
            try clear c13
            try clear c13b0
            try clear c13b1
            try clear p2
            try clear p6
            obtain ⟨kq, x27_9, rfl, HA, HJ9, HO_4, HO_6, HB⟩ := hcut
            cases kq with
            | zero => exact absurd HA.out (by simp [geyserref03_Parities.j3])
            | succ kj9 =>
             have H := HA.out
             clear HA
             simp only [geyserref03_Parities.j3] at H
             by_cases c14 : x27_9 = true
             ·subst c14
              have H1 : (if 0 ≤ x24_3 then (if x24_3 < (x6_3.length : Int) then (geyserref03_Parities.l1 kj9 a0 x3_1 x4_2 x18_2 (x6_3.set (x24_3 : Int).toNat 1) (wrap64 (x3_1 + 2)) x18_2 a0 (wrap64 (x24_3 + 1))) else (none)) else (none)) = some r := by rw [if_pos rfl] at H; exact H
              clear H
              have H := H1
              clear H1
              by_cases c15 : 0 ≤ x24_3
              ·rw [if_pos c15] at H
               have c15b0 : decide (0 ≤ x24_3) = true := decide_eq_true c15
               clear c15
               by_cases c16 : x24_3 < (x6_3.length : Int)
               ·rw [if_pos c16] at H
                have c16b0 : decide (x24_3 < (x6_3.length : Int)) = true := decide_eq_true c16
                clear c16
                obtain ⟨y298, hy298⟩ : ∃ y_ : List Int, y_ = (x6_3.set (x24_3 : Int).toNat 1) := ⟨_, rfl⟩
                replace H : (geyserref03_Parities.l1 kj9 a0 x3_1 x4_2 x18_2 y298 (wrap64 (x3_1 + 2)) x18_2 a0 (wrap64 (x24_3 + 1))) = some r := by first | (rw [hy298]; with_reducible exact H) | (have H2_ := (Option.bind_some _ _).symm.trans H; rw [hy298]; with_reducible exact H2_) | (have H2_ := (Option.bind_some _ _).symm.trans H; with_reducible exact H2_) | with_reducible exact H | (rw [hy298]; exact H) | exact H
                have Ny298 := Aside0.mk hy298
                clear hy298
                have H' := Aside0.mk H
                clear H
                have p17 : 0 ≤ (x24_3 : Int) := of_decide_eq_true (by first | (with_reducible assumption) | assumption)
                have q17 : (x24_3 : Int) < ((x6_3.length : Int) : Int) := of_decide_eq_true (by first | (with_reducible assumption) | assumption)
                obtain ⟨go17, co17, eo17, gb17, gl17, cl17, HG17⟩ := Kd.R_form HO_6.out (by omega)
                (first | cases eo17 | (injection eo17 with ea_ en_ ec_; (first | subst ea_ | (injection ea_ with ea_; subst ea_)); subst ec_; clear en_))
                have GB17 := Aside0.mk gb17
                have GG17 := Aside0.mk HG17
                clear gb17 gl17 HG17
                obtain ⟨hx17_0, hf17_0⟩ := Kd.R_celln 0 HO_6.out (x24_3 : Int) p17 q17
                replace p17 := eq_true p17
                replace q17 := eq_true q17
                have HP18 := Kd.R_putg HO_6.out (x24_3 : Int) 1
                go_wp2_with (first | ((with_reducible refine gate_store (t := 5) (p := 49) rfl ?_); refine store_event (t := 5) (p := 49) (v := ?vo_w19) (w1 := (wc.setCell ⟨go17, (x24_3 : Int).toNat, none⟩ (.int .u8 1))) ?hg ?ho ?hn ?hr ?_; (case ho => rfl); (case hg => rfl); (case hn => rfl); (case hr => first | (go_simp; done) | (go_simp; rfl)); intro w19 hw; have hg : wc.grownBy w19 (some go17) := (by rw [hw]; exact HP18.2); have hp_ : Kd.R (Kd.int .u8) 5 w19 w.heap.size (fun _ => True) (.slice (some ⟨go17, 0, none⟩) x6_3.length co17) y298 := (by rw [hw, Ny298.out]; exact HP18.1); clear HP18; have n0_ := Aside0.mk (Kd.S_after (v := (.slice (some ⟨go17, 0, none⟩) x6_3.length co17)) (v1 := (.slice (some ⟨go17, 0, none⟩) x6_3.length co17)) (ok := (fun _ => True)) (by (with_reducible repeat (first | apply Kd.S_alloc | apply Kd.S_drewN | apply Kd.S_drew)); exact Kd.S_mono HO_4.out (fun _ hk => ⟨trivial, hk⟩)) hg (.inl rfl)); have n1_ := Aside0.mk (hp_); have n2_ := Aside0.mk ((by rw [hw]; exact below_set (HB.out) GB17.out : Below w.heap.size w w19)); clear HO_4; clear HO_6; clear HB; have HO_4 := n0_; have HO_6 := n1_; have HB := n2_; clear n0_ n1_ n2_; clear hg hw hp_))
                go_roundg kj9
                case measure => have := HJ1.out; have := HK2.out; have := HK3.out; have := HJ9.out; omega
                case rel => exact ⟨(y298), (wrap64 (x24_3 + 1)), (by first | rfl | (simp; done) | (simp [*]; done)), H', ⟨by have := HJ1.out; have := HK2.out; have := HK3.out; have := HJ9.out; omega⟩, ⟨by (with_reducible repeat (first | apply Kd.S_alloc | apply Kd.S_drewN | apply Kd.S_drew)); exact Kd.S_mono HO_4.out (fun _ hk => by first | exact hk.2 | exact hk.1 | exact hk.1.1 | exact hk.1.2 | exact hk.2.1 | exact hk.2.2)⟩, ⟨by (with_reducible repeat (first | apply Kd.R_alloc | apply Kd.R_drewN | apply Kd.R_drew)); exact HO_6.out⟩, ⟨by repeat (first | (with_reducible first | exact HB.out | apply below_alloc | apply pw_below_drewN | apply below_drew1) | exact HB.out)⟩⟩
               ·rw [if_neg c16] at H
                exact absurd H (by simp)
              ·rw [if_neg c15] at H
               exact absurd H (by simp)
             ·replace c14 := Bool.eq_false_iff.mpr c14
              subst c14
              have H1 : (if x18_2 = x3_1 then ((geyserref03_Pow.f kj9 2 (wrap64 (x24_3 + 1))).bind fun t299 => (if 0 ≤ x24_3 then (if x24_3 < (x6_3.length : Int) then (geyserref03_Parities.l1 kj9 a0 x3_1 x4_2 x18_2 (x6_3.set (x24_3 : Int).toNat t299) (wrap64 (x3_1 + 2)) x18_2 a0 (wrap64 (x24_3 + 1))) else (none)) else (none))) else (if x18_2 = (wrap64 (x3_1 + 1)) then ((geyserref03_Pow.f kj9 2 (wrap64 (2 * (wrap64 (x24_3 + 1))))).bind fun t301 => (if 0 ≤ x24_3 then (if x24_3 < (x6_3.length : Int) then (geyserref03_Parities.l1 kj9 a0 x3_1 x4_2 x18_2 (x6_3.set (x24_3 : Int).toNat t301) (wrap64 (x3_1 + 2)) x18_2 a0 (wrap64 (x24_3 + 1))) else (none)) else (none))) else (geyserref03_Parities.l1 kj9 a0 x3_1 x4_2 x18_2 x6_3 (wrap64 (x3_1 + 2)) x18_2 a0 (wrap64 (x24_3 + 1))))) = some r := by rw [if_neg (show ¬ (false = true) by decide)] at H; exact H
              clear H
              have H := H1
              clear H1
              by_cases c20 : x18_2 = x3_1
              ·rw [if_pos c20] at H
               have c20b0 : (x18_2 == x3_1) = true := beq_iff_eq.mpr c20
               have c20b1 : (x18_2 != x3_1) = false := bne_eq_false_iff_eq.mpr c20
               clear c20
               replace H := Option.bind_eq_some_iff.mp H
               obtain ⟨t299, A210, H⟩ := H
               replace H : (if 0 ≤ x24_3 then (if x24_3 < (x6_3.length : Int) then (geyserref03_Parities.l1 kj9 a0 x3_1 x4_2 x18_2 (x6_3.set (x24_3 : Int).toNat t299) (wrap64 (x3_1 + 2)) x18_2 a0 (wrap64 (x24_3 + 1))) else (none)) else (none)) = some r := H
               have A21 := Aside0.mk A210
               clear A210
               by_cases c22 : 0 ≤ x24_3
               ·rw [if_pos c22] at H
                have c22b0 : decide (0 ≤ x24_3) = true := decide_eq_true c22
                clear c22
                by_cases c23 : x24_3 < (x6_3.length : Int)
                ·rw [if_pos c23] at H
                 have c23b0 : decide (x24_3 < (x6_3.length : Int)) = true := decide_eq_true c23
                 clear c23
                 obtain ⟨y300, hy300⟩ : ∃ y_ : List Int, y_ = (x6_3.set (x24_3 : Int).toNat t299) := ⟨_, rfl⟩
                 replace H : (geyserref03_Parities.l1 kj9 a0 x3_1 x4_2 x18_2 y300 (wrap64 (x3_1 + 2)) x18_2 a0 (wrap64 (x24_3 + 1))) = some r := by first | (rw [hy300]; with_reducible exact H) | (have H2_ := (Option.bind_some _ _).symm.trans H; rw [hy300]; with_reducible exact H2_) | (have H2_ := (Option.bind_some _ _).symm.trans H; with_reducible exact H2_) | with_reducible exact H | (rw [hy300]; exact H) | exact H
                 have Ny300 := Aside0.mk hy300
                 clear hy300
                 have H' := Aside0.mk H
                 clear H
                 go_wp2_with (first | ((with_reducible refine gate_callee (f := 64) rfl ?_); refine goesL_ (some 58) rfl rfl Try.func64 (by kernel_rfl) rfl #[.int .u8 2, .int .i64 (wrap64 (x24_3 + 1))] rfl (by (try simp only [List.map_toArray, List.map_cons, List.map_nil]); first | done | rfl | (simp only [List.length_drop, List.length_take]; rfl)) ?_; (with_reducible refine (geyserref03_Pow.calls kj9 2 (wrap64 (x24_3 + 1)) t299 _ A21.out).mono ?_); rintro e w' ⟨rfl, ⟨nd, rfl⟩⟩; refine ⟨_, rfl, ?_⟩; (try (rw [drewN_self wc]; generalize hq_ : World.drewN wc _ = wc; have n0_ : Aside0 (Kd.S (Kd.slice 5 (Kd.int .u8)) 31 wc w.heap.size (fun k_ => some k_ ≠ (v293 : Value).ownBlock) u4 x4_2) := ⟨by rw [← hq_]; exact (by (with_reducible repeat (first | apply Kd.S_alloc | apply Kd.S_drewN | apply Kd.S_drew)); exact HO_4.out)⟩; have n1_ : Aside0 (Kd.R (Kd.int .u8) 5 wc w.heap.size (fun _ => True) v293 x6_3) := ⟨by rw [← hq_]; exact (by (with_reducible repeat (first | apply Kd.R_alloc | apply Kd.R_drewN | apply Kd.R_drew)); exact HO_6.out)⟩; have n2_ : Aside0 (Below w.heap.size w wc) := ⟨by rw [← hq_]; exact (by repeat (first | (with_reducible first | exact HB.out | apply below_alloc | apply pw_below_drewN | apply below_drew1) | exact HB.out))⟩; clear HO_4 HO_6 HB hq_; have HO_4 := n0_; have HO_6 := n1_; have HB := n2_; clear n0_ n1_ n2_)); have p24 : 0 ≤ (x24_3 : Int) := of_decide_eq_true (by first | (with_reducible assumption) | assumption); have q24 : (x24_3 : Int) < ((x6_3.length : Int) : Int) := of_decide_eq_true (by first | (with_reducible assumption) | assumption); obtain ⟨go24, co24, eo24, gb24, gl24, cl24, HG24⟩ := Kd.R_form HO_6.out (by omega); (first | cases eo24 | (injection eo24 with ea_ en_ ec_; (first | subst ea_ | (injection ea_ with ea_; subst ea_)); subst ec_; clear en_)); have GB24 := Aside0.mk gb24; have GG24 := Aside0.mk HG24; clear gb24 gl24 HG24; obtain ⟨hx24_0, hf24_0⟩ := Kd.R_celln 0 HO_6.out (x24_3 : Int) p24 q24; replace p24 := eq_true p24; replace q24 := eq_true q24; obtain ⟨hy25_, hz25_⟩ := Kd.R_celln 0 HO_6.out (x24_3 : Int) (of_decide_eq_true (by first | (with_reducible assumption) | assumption)) (of_decide_eq_true (by first | (with_reducible assumption) | assumption)); have HP25 := Kd.R_putg HO_6.out (x24_3 : Int) t299) | ((with_reducible refine gate_store (t := 5) (p := 59) rfl ?_); refine store_event (t := 5) (p := 59) (v := ?vo_w26) (w1 := (wc.setCell ⟨go24, (x24_3 : Int).toNat, none⟩ (.int .u8 t299))) ?hg ?ho ?hn ?hr ?_; (case ho => rfl); (case hg => rfl); (case hn => rfl); (case hr => first | (go_simp; done) | (go_simp; rfl)); intro w26 hw; have hg : wc.grownBy w26 (some go24) := (by rw [hw]; exact HP25.2); have hp_ : Kd.R (Kd.int .u8) 5 w26 w.heap.size (fun _ => True) (.slice (some ⟨go24, 0, none⟩) x6_3.length co24) y300 := (by rw [hw, Ny300.out]; exact HP25.1); clear HP25; have n0_ := Aside0.mk (Kd.S_after (v := (.slice (some ⟨go24, 0, none⟩) x6_3.length co24)) (v1 := (.slice (some ⟨go24, 0, none⟩) x6_3.length co24)) (ok := (fun _ => True)) (by (with_reducible repeat (first | apply Kd.S_alloc | apply Kd.S_drewN | apply Kd.S_drew)); exact Kd.S_mono HO_4.out (fun _ hk => ⟨trivial, hk⟩)) hg (.inl rfl)); have n1_ := Aside0.mk (hp_); have n2_ := Aside0.mk ((by rw [hw]; exact below_set (HB.out) GB24.out : Below w.heap.size w w26)); clear HO_4; clear HO_6; clear HB; have HO_4 := n0_; have HO_6 := n1_; have HB := n2_; clear n0_ n1_ n2_; clear hg hw hp_))
                 go_roundg kj9
                 case measure => have := HJ1.out; have := HK2.out; have := HK3.out; have := HJ9.out; omega
                 case rel => exact ⟨(y300), (wrap64 (x24_3 + 1)), (by first | rfl | (simp; done) | (simp [*]; done)), H', ⟨by have := HJ1.out; have := HK2.out; have := HK3.out; have := HJ9.out; omega⟩, ⟨by (with_reducible repeat (first | apply Kd.S_alloc | apply Kd.S_drewN | apply Kd.S_drew)); exact Kd.S_mono HO_4.out (fun _ hk => by first | exact hk.2 | exact hk.1 | exact hk.1.1 | exact hk.1.2 | exact hk.2.1 | exact hk.2.2)⟩, ⟨by (with_reducible repeat (first | apply Kd.R_alloc | apply Kd.R_drewN | apply Kd.R_drew)); exact HO_6.out⟩, ⟨by repeat (first | (with_reducible first | exact HB.out | apply below_alloc | apply pw_below_drewN | apply below_drew1) | exact HB.out)⟩⟩
                ·rw [if_neg c23] at H
                 exact absurd H (by simp)
               ·rw [if_neg c22] at H
                exact absurd H (by simp)
              ·rw [if_neg c20] at H
               have c20b0 : (x18_2 == x3_1) = false := beq_eq_false_iff_ne.mpr c20
               have c20b1 : (x18_2 != x3_1) = true := bne_iff_ne.mpr c20
               by_cases c27 : x18_2 = (wrap64 (x3_1 + 1))
               ·rw [if_pos c27] at H
                have c27b0 : (x18_2 == (wrap64 (x3_1 + 1))) = true := beq_iff_eq.mpr c27
                have c27b1 : (x18_2 != (wrap64 (x3_1 + 1))) = false := bne_eq_false_iff_eq.mpr c27
                clear c27
                replace H := Option.bind_eq_some_iff.mp H
                obtain ⟨t301, A280, H⟩ := H
                replace H : (if 0 ≤ x24_3 then (if x24_3 < (x6_3.length : Int) then (geyserref03_Parities.l1 kj9 a0 x3_1 x4_2 x18_2 (x6_3.set (x24_3 : Int).toNat t301) (wrap64 (x3_1 + 2)) x18_2 a0 (wrap64 (x24_3 + 1))) else (none)) else (none)) = some r := H
                have A28 := Aside0.mk A280
                clear A280
                by_cases c29 : 0 ≤ x24_3
                ·rw [if_pos c29] at H
                 have c29b0 : decide (0 ≤ x24_3) = true := decide_eq_true c29
                 clear c29
                 by_cases c30 : x24_3 < (x6_3.length : Int)
                 ·rw [if_pos c30] at H
                  have c30b0 : decide (x24_3 < (x6_3.length : Int)) = true := decide_eq_true c30
                  clear c30
                  obtain ⟨y302, hy302⟩ : ∃ y_ : List Int, y_ = (x6_3.set (x24_3 : Int).toNat t301) := ⟨_, rfl⟩
                  replace H : (geyserref03_Parities.l1 kj9 a0 x3_1 x4_2 x18_2 y302 (wrap64 (x3_1 + 2)) x18_2 a0 (wrap64 (x24_3 + 1))) = some r := by first | (rw [hy302]; with_reducible exact H) | (have H2_ := (Option.bind_some _ _).symm.trans H; rw [hy302]; with_reducible exact H2_) | (have H2_ := (Option.bind_some _ _).symm.trans H; with_reducible exact H2_) | with_reducible exact H | (rw [hy302]; exact H) | exact H
                  have Ny302 := Aside0.mk hy302
                  clear hy302
                  have H' := Aside0.mk H
                  clear H
                  go_wp2_with (first | ((with_reducible refine gate_callee (f := 64) rfl ?_); refine goesL_ (some 70) rfl rfl Try.func64 (by kernel_rfl) rfl #[.int .u8 2, .int .i64 (wrap64 (2 * (wrap64 (x24_3 + 1))))] rfl (by (try simp only [List.map_toArray, List.map_cons, List.map_nil]); first | done | rfl | (simp only [List.length_drop, List.length_take]; rfl)) ?_; (with_reducible refine (geyserref03_Pow.calls kj9 2 (wrap64 (2 * (wrap64 (x24_3 + 1)))) t301 _ A28.out).mono ?_); rintro e w' ⟨rfl, ⟨nd, rfl⟩⟩; refine ⟨_, rfl, ?_⟩; (try (rw [drewN_self wc]; generalize hq_ : World.drewN wc _ = wc; have n0_ : Aside0 (Kd.S (Kd.slice 5 (Kd.int .u8)) 31 wc w.heap.size (fun k_ => some k_ ≠ (v293 : Value).ownBlock) u4 x4_2) := ⟨by rw [← hq_]; exact (by (with_reducible repeat (first | apply Kd.S_alloc | apply Kd.S_drewN | apply Kd.S_drew)); exact HO_4.out)⟩; have n1_ : Aside0 (Kd.R (Kd.int .u8) 5 wc w.heap.size (fun _ => True) v293 x6_3) := ⟨by rw [← hq_]; exact (by (with_reducible repeat (first | apply Kd.R_alloc | apply Kd.R_drewN | apply Kd.R_drew)); exact HO_6.out)⟩; have n2_ : Aside0 (Below w.heap.size w wc) := ⟨by rw [← hq_]; exact (by repeat (first | (with_reducible first | exact HB.out | apply below_alloc | apply pw_below_drewN | apply below_drew1) | exact HB.out))⟩; clear HO_4 HO_6 HB hq_; have HO_4 := n0_; have HO_6 := n1_; have HB := n2_; clear n0_ n1_ n2_)); have p31 : 0 ≤ (x24_3 : Int) := of_decide_eq_true (by first | (with_reducible assumption) | assumption); have q31 : (x24_3 : Int) < ((x6_3.length : Int) : Int) := of_decide_eq_true (by first | (with_reducible assumption) | assumption); obtain ⟨go31, co31, eo31, gb31, gl31, cl31, HG31⟩ := Kd.R_form HO_6.out (by omega); (first | cases eo31 | (injection eo31 with ea_ en_ ec_; (first | subst ea_ | (injection ea_ with ea_; subst ea_)); subst ec_; clear en_)); have GB31 := Aside0.mk gb31; have GG31 := Aside0.mk HG31; clear gb31 gl31 HG31; obtain ⟨hx31_0, hf31_0⟩ := Kd.R_celln 0 HO_6.out (x24_3 : Int) p31 q31; replace p31 := eq_true p31; replace q31 := eq_true q31; obtain ⟨hy32_, hz32_⟩ := Kd.R_celln 0 HO_6.out (x24_3 : Int) (of_decide_eq_true (by first | (with_reducible assumption) | assumption)) (of_decide_eq_true (by first | (with_reducible assumption) | assumption)); have HP32 := Kd.R_putg HO_6.out (x24_3 : Int) t301) | ((with_reducible refine gate_store (t := 5) (p := 71) rfl ?_); refine store_event (t := 5) (p := 71) (v := ?vo_w33) (w1 := (wc.setCell ⟨go31, (x24_3 : Int).toNat, none⟩ (.int .u8 t301))) ?hg ?ho ?hn ?hr ?_; (case ho => rfl); (case hg => rfl); (case hn => rfl); (case hr => first | (go_simp; done) | (go_simp; rfl)); intro w33 hw; have hg : wc.grownBy w33 (some go31) := (by rw [hw]; exact HP32.2); have hp_ : Kd.R (Kd.int .u8) 5 w33 w.heap.size (fun _ => True) (.slice (some ⟨go31, 0, none⟩) x6_3.length co31) y302 := (by rw [hw, Ny302.out]; exact HP32.1); clear HP32; have n0_ := Aside0.mk (Kd.S_after (v := (.slice (some ⟨go31, 0, none⟩) x6_3.length co31)) (v1 := (.slice (some ⟨go31, 0, none⟩) x6_3.length co31)) (ok := (fun _ => True)) (by (with_reducible repeat (first | apply Kd.S_alloc | apply Kd.S_drewN | apply Kd.S_drew)); exact Kd.S_mono HO_4.out (fun _ hk => ⟨trivial, hk⟩)) hg (.inl rfl)); have n1_ := Aside0.mk (hp_); have n2_ := Aside0.mk ((by rw [hw]; exact below_set (HB.out) GB31.out : Below w.heap.size w w33)); clear HO_4; clear HO_6; clear HB; have HO_4 := n0_; have HO_6 := n1_; have HB := n2_; clear n0_ n1_ n2_; clear hg hw hp_))
                  go_roundg kj9
                  case measure => have := HJ1.out; have := HK2.out; have := HK3.out; have := HJ9.out; omega
                  case rel => exact ⟨(y302), (wrap64 (x24_3 + 1)), (by first | rfl | (simp; done) | (simp [*]; done)), H', ⟨by have := HJ1.out; have := HK2.out; have := HK3.out; have := HJ9.out; omega⟩, ⟨by (with_reducible repeat (first | apply Kd.S_alloc | apply Kd.S_drewN | apply Kd.S_drew)); exact Kd.S_mono HO_4.out (fun _ hk => by first | exact hk.2 | exact hk.1 | exact hk.1.1 | exact hk.1.2 | exact hk.2.1 | exact hk.2.2)⟩, ⟨by (with_reducible repeat (first | apply Kd.R_alloc | apply Kd.R_drewN | apply Kd.R_drew)); exact HO_6.out⟩, ⟨by repeat (first | (with_reducible first | exact HB.out | apply below_alloc | apply pw_below_drewN | apply below_drew1) | exact HB.out)⟩⟩
                 ·rw [if_neg c30] at H
                  exact absurd H (by simp)
                ·rw [if_neg c29] at H
                 exact absurd H (by simp)
               ·rw [if_neg c27] at H
                have c27b0 : (x18_2 == (wrap64 (x3_1 + 1))) = false := beq_eq_false_iff_ne.mpr c27
                have c27b1 : (x18_2 != (wrap64 (x3_1 + 1))) = true := bne_iff_ne.mpr c27
                have H' := Aside0.mk H
                clear H
                go_wp2
                go_roundg kj9
                case measure => have := HJ1.out; have := HK2.out; have := HK3.out; have := HJ9.out; omega
                case rel => exact ⟨(x6_3), (wrap64 (x24_3 + 1)), (by first | rfl | (simp; done) | (simp [*]; done)), H', ⟨by have := HJ1.out; have := HK2.out; have := HK3.out; have := HJ9.out; omega⟩, ⟨by (with_reducible repeat (first | apply Kd.S_alloc | apply Kd.S_drewN | apply Kd.S_drew)); exact HO_4.out⟩, ⟨by (with_reducible repeat (first | apply Kd.R_alloc | apply Kd.R_drewN | apply Kd.R_drew)); exact HO_6.out⟩, ⟨by repeat (first | (with_reducible first | exact HB.out | apply below_alloc | apply pw_below_drewN | apply below_drew1) | exact HB.out)⟩⟩
          ·rw [if_neg c9] at H
           have c9b0 : decide (x24_3 < a0) = false := decide_eq_false c9
           clear c9
           by_cases c34 : x4_2.length < 5864062014805
           ·rw [if_pos c34] at H
            have LMc34 := Aside0.mk c34
            clear c34
            obtain ⟨y295, hy295⟩ : ∃ y_ : List (List Int), y_ = (x4_2 ++ [x6_3]) := ⟨_, rfl⟩
            replace H : (geyserref03_Parities.l0 k3 a0 x3_1 y295 (wrap64 (x3_1 + 2)) (wrap64 (x18_2 + 1))) = some r := by first | (rw [hy295]; with_reducible exact H) | (have H2_ := (Option.bind_some _ _).symm.trans H; rw [hy295]; with_reducible exact H2_) | (have H2_ := (Option.bind_some _ _).symm.trans H; with_reducible exact H2_) | with_reducible exact H | (rw [hy295]; exact H) | exact H
            have Ny295 := Aside0.mk hy295
            clear hy295
            have H' := Aside0.mk H
            clear H
            obtain ⟨Ao36, co36, eo36⟩ := Kd.R_slice HO_6.out
            subst eo36
            go_wp2_with (first | ((with_reducible refine gate_builtin (b := .append) (xs := #[.tmp 73, .tmp 75]) rfl ?_); at_builtin; refine Kd.S_append (Kd.slice 5 (Kd.int .u8)) (w0 := w) w.heap.size rfl (.tmp 73) (.tmp 75) 22 31 (.slice none 0 0) 24 rfl Try.underlying22 info31 rfl (by decide) (by omega) u4 x4_2 x6_3 [.slice Ao36 x6_3.length co36] (fun _ => True) (fun k_ => some k_ = (.slice Ao36 x6_3.length co36 : Value).ownBlock) rfl rfl ?aP (fun k_ hk_ => ((Kd.R_mono (ok' := fun k_ => ((fun _ => True)) k_ ∧ some k_ ≠ (u4 : Value).ownBlock) (Kd.R_apart' (HO_6.out) (Kd.S_typed HO_4.out) (by decide)) (fun k_ hk => ⟨trivial, hk.2⟩))).1 k_ hk_.symm) ?aF ?aO ?aB ?aS ?aL ?_; (case aP => exact Kd.M_row (Kd.R_mono (Kd.R_tight rfl (Kd.R_mono (ok' := fun k_ => ((fun _ => True)) k_ ∧ some k_ ≠ (u4 : Value).ownBlock) (Kd.R_apart' (HO_6.out) (Kd.S_typed HO_4.out) (by decide)) (fun k_ hk => ⟨trivial, hk.2⟩))) (fun _ h_ => h_))); (case aB => exact (by repeat (first | (with_reducible first | exact HB.out | apply below_alloc | apply pw_below_drewN | apply below_drew1) | exact HB.out))); (case aF => exact (fun _ _ => trivial)); (case aO => exact (by (with_reducible repeat (first | apply Kd.S_alloc | apply Kd.S_drewN | apply Kd.S_drew)); exact Kd.S_mono HO_4.out (fun k_ hk => ⟨trivial, fun e_ => hk e_⟩))); (case aS => exact (below_size (by repeat (first | (with_reducible first | exact HB.out | apply below_alloc | apply pw_below_drewN | apply below_drew1) | exact HB.out)))); (case aL => have := LMc34.out; omega); intro v296 w35 ho hb hg hat; rw [← Ny295.out] at ho; have n0_ := Aside0.mk (hb); have n1_ := Aside0.mk (ho); clear HB; clear HO_4; clear HO_6; have HB := n0_; have HO297 := n1_; clear n0_ n1_; clear ho hb hg hat))
            go_roundg k3
            case measure => have := HJ1.out; have := HK2.out; have := HK3.out; omega
            case rel => exact ⟨(y295), (wrap64 (x18_2 + 1)), (by first | rfl | (simp; done) | (simp [*]; done)), H', ⟨by have := HJ1.out; have := HK2.out; have := HK3.out; omega⟩, ⟨by (with_reducible repeat (first | apply Kd.S_alloc | apply Kd.S_drewN | apply Kd.S_drew)); exact HO297.out⟩, ⟨by repeat (first | (with_reducible first | exact HB.out | apply below_alloc | apply pw_below_drewN | apply below_drew1) | exact HB.out)⟩⟩
           ·rw [if_neg c34] at H
            exact absurd H (by simp)
       ·rw [if_neg c6] at H
        exact absurd H (by simp)
      ·rw [if_neg c5] at H
       exact absurd H (by simp)
     ·rw [if_neg c4] at H
      have c4b0 : decide (x18_2 < (wrap64 (x3_1 + 2))) = false := decide_eq_false c4
      clear c4
      obtain rfl := Option.some.inj H
      go_wp2
      go_ret
      exact ⟨_, by first | rfl | (simp [errW_none, errW_some] <;> rfl) | (simp [*, errW_none, errW_some] <;> rfl), by (with_reducible repeat (first | apply Kd.S_alloc | apply Kd.S_drewN | apply Kd.S_drew)); exact HO_4.out, by repeat (first | (with_reducible first | exact HB.out | apply below_alloc | apply pw_below_drewN | apply below_drew1) | exact HB.out)⟩

def geyserref03_Next.f (a0 : Int) : Option (Int) := some (Go.bits .xor .u64 (Go.bits .xor .u64 (Go.bits .xor .u64 a0 (Go.bits .and .u64 (IntKind.u64.wrap (a0 * 8192)) 4294967295)) ((Go.bits .xor .u64 a0 (Go.bits .and .u64 (IntKind.u64.wrap (a0 * 8192)) 4294967295)) / 131072)) (Go.bits .and .u64 (IntKind.u64.wrap ((Go.bits .xor .u64 (Go.bits .xor .u64 a0 (Go.bits .and .u64 (IntKind.u64.wrap (a0 * 8192)) 4294967295)) ((Go.bits .xor .u64 a0 (Go.bits .and .u64 (IntKind.u64.wrap (a0 * 8192)) 4294967295)) / 131072)) * 32)) 4294967295))
set_option maxHeartbeats 8000000 in
set_option maxRecDepth 100000 in
theorem geyserref03_Next.calls (a0 : Int) (r : Int) (w : World) (h : geyserref03_Next.f a0 = some r) :
  Calls Try.prog 91 #[.int .u64 a0] w fun e w' => e = .returned (.int .u64 r) ∧ Drawn0 w w' := by
 have H : (some (Go.bits .xor .u64 (Go.bits .xor .u64 (Go.bits .xor .u64 a0 (Go.bits .and .u64 (IntKind.u64.wrap (a0 * 8192)) 4294967295)) ((Go.bits .xor .u64 a0 (Go.bits .and .u64 (IntKind.u64.wrap (a0 * 8192)) 4294967295)) / 131072)) (Go.bits .and .u64 (IntKind.u64.wrap ((Go.bits .xor .u64 (Go.bits .xor .u64 a0 (Go.bits .and .u64 (IntKind.u64.wrap (a0 * 8192)) 4294967295)) ((Go.bits .xor .u64 a0 (Go.bits .and .u64 (IntKind.u64.wrap (a0 * 8192)) 4294967295)) / 131072)) * 32)) 4294967295))) = some r := h
 clear h
 obtain rfl := Option.some.inj H
 go_enter Try.func91, Try.ntmps91
 go_wp2
 go_ret
 exact ⟨by first | rfl | (simp; done) | (simp [*]; done), by repeat (first | exact Drawn0.refl _ | apply Drawn0.step)⟩

def geyserref03_Begin.f (a0 : Int) : Option (Int) := if (Go.bits .xor .u64 (IntKind.u64.wrap (a0)) 2654435769) = 0 then (some 1) else (some (Go.bits .xor .u64 (IntKind.u64.wrap (a0)) 2654435769))
set_option maxHeartbeats 8000000 in
set_option maxRecDepth 100000 in
theorem geyserref03_Begin.calls (a0 : Int) (r : Int) (w : World) (h : geyserref03_Begin.f a0 = some r) :
  Calls Try.prog 92 #[.int .u32 a0] w fun e w' => e = .returned (.int .u64 r) ∧ Drawn0 w w' := by
 have H : (if (Go.bits .xor .u64 (IntKind.u64.wrap (a0)) 2654435769) = 0 then (some 1) else (some (Go.bits .xor .u64 (IntKind.u64.wrap (a0)) 2654435769))) = some r := h
 clear h
 by_cases c2 : (Go.bits .xor .u64 (IntKind.u64.wrap (a0)) 2654435769) = 0
 ·rw [if_pos c2] at H
  have c2b0 : ((Go.bits .xor .u64 (IntKind.u64.wrap (a0)) 2654435769) == 0) = true := beq_iff_eq.mpr c2
  have c2b1 : ((Go.bits .xor .u64 (IntKind.u64.wrap (a0)) 2654435769) != 0) = false := bne_eq_false_iff_eq.mpr c2
  clear c2
  obtain rfl := Option.some.inj H
  go_enter Try.func92, Try.ntmps92
  go_wp2
  go_ret
  exact ⟨by first | rfl | (simp; done) | (simp [*]; done), by repeat (first | exact Drawn0.refl _ | apply Drawn0.step)⟩
 ·rw [if_neg c2] at H
  have c2b0 : ((Go.bits .xor .u64 (IntKind.u64.wrap (a0)) 2654435769) == 0) = false := beq_eq_false_iff_ne.mpr c2
  have c2b1 : ((Go.bits .xor .u64 (IntKind.u64.wrap (a0)) 2654435769) != 0) = true := bne_iff_ne.mpr c2
  obtain rfl := Option.some.inj H
  go_enter Try.func92, Try.ntmps92
  go_wp2
  go_ret
  exact ⟨by first | rfl | (simp; done) | (simp [*]; done), by repeat (first | exact Drawn0.refl _ | apply Drawn0.step)⟩

def geyserref03_Seed.f (a0 : Int) (a1 : Int) : Option (Int) := some ((Int.tmod (IntKind.u64.wrap ((IntKind.u64.wrap ((IntKind.u64.wrap (a1)) * 2654435761)) + (IntKind.u64.wrap ((IntKind.u64.wrap (a0)) * 40503)))) 4294967296) % 4294967296)
set_option maxHeartbeats 8000000 in
set_option maxRecDepth 100000 in
theorem geyserref03_Seed.calls (a0 : Int) (a1 : Int) (r : Int) (w : World) (h : geyserref03_Seed.f a0 a1 = some r) :
  Calls Try.prog 93 #[.int .i64 a0, .int .u32 a1] w fun e w' => e = .returned (.int .u32 r) ∧ Drawn0 w w' := by
 have H : (some ((Int.tmod (IntKind.u64.wrap ((IntKind.u64.wrap ((IntKind.u64.wrap (a1)) * 2654435761)) + (IntKind.u64.wrap ((IntKind.u64.wrap (a0)) * 40503)))) 4294967296) % 4294967296)) = some r := h
 clear h
 obtain rfl := Option.some.inj H
 go_enter Try.func93, Try.ntmps93
 go_wp2
 go_ret
 exact ⟨by first | rfl | (simp; done) | (simp [*]; done), by repeat (first | exact Drawn0.refl _ | apply Drawn0.step)⟩

end Go.Proofs.Ytcmigmldecacpaa.QEncodeSums
