/- Machine-made by a program of this claim: functions of the Go program as Lean functions, and that its calls do what these say. Lean checks it. -/
import Derived.Test.YtcmigmldecacpaaQPrecodeParitiesx0
import Derived.Test.YtcmigmldecacpaaQPrecodeParitiesx1
import Derived.Test.YtcmigmldecacpaaQPrecodeParitiesx3
import Derived.Test.YtcmigmldecacpaaQPrecodeParitiesx4
import Derived.Test.YtcmigmldecacpaaQPrecodeParitiesx5
import Derived.Test.YtcmigmldecacpaaGiv
namespace Go.Proofs.Ytcmigmldecacpaa.QPrecodeParities
open Go.RowKit Go.Proofs.YtcmigmldecacpaaW.PrintWords Go.Proofs.YtcmigmldecacpaaW.PrintLast Go.Proofs.YtcmigmldecacpaaW.PrintMore Go.Proofs.Ytcmigmldecacpaa.Giv
attribute [local go_sem] max2_int min2_int max_two min_two max_three min_three max_four min_four   -- for this text's walks alone
set_option linter.unusedVariables false
set_option linter.unusedSimpArgs false

/-! ### geyserlaw07_PrecodeParities: function 6 -/
mutual
def geyserlaw07_PrecodeParities.j0 : Nat → List (List Int) → Int → Bool → Option (Bool)
  | 0, _, _, _ => none
  | k + 1, x0, x1, x16 => if x16 = true then ((geyserlaw07_awake.f).bind fun t198 => (some t198)) else ((precode_Parities.f k x0 x1).bind fun bt199 => ((geyserlaw07_Wrong.f k x0 x1).bind fun t203 => (if t203 = 0 then ((geyserref03_Parities.f k (x0.length : Int)).bind fun t204 => (if bt199.2 = 0 then (geyserlaw07_PrecodeParities.j1 k x0 x1 bt199.1 t204 ((bt199.1.length : Int) != (t204.length : Int))) else (geyserlaw07_PrecodeParities.j1 k x0 x1 bt199.1 t204 true))) else (if bt199.2 = t203 then (some ((bt199.1.length : Int) == 0)) else (some false)))))
def geyserlaw07_PrecodeParities.j1 : Nat → List (List Int) → Int → List (List Int) → List (List Int) → Bool → Option (Bool)
  | 0, _, _, _, _, _ => none
  | k + 1, x0, x1, x5, x8, x48 => if x48 = true then (some false) else (geyserlaw07_PrecodeParities.l0 k x0 x1 x5 x8 (x8.length : Int) 0)
def geyserlaw07_PrecodeParities.l0 : Nat → List (List Int) → Int → List (List Int) → List (List Int) → Int → Int → Option (Bool)
  | 0, _, _, _, _, _, _ => none
  | k + 1, x0, x1, x5, x8, x50, x51 => if x51 < x50 then (if 0 ≤ x51 then (if x51 < (x5.length : Int) then (if x51 < (x8.length : Int) then ((geyserref03_Symbol.f k x0 x1 (rd_L1 x8 x51)).bind fun t209 => (if (strOfNums (rd_L1 x5 x51)).toList = (strOfNums t209).toList then (geyserlaw07_PrecodeParities.l0 k x0 x1 x5 x8 x50 (wrap64 (x51 + 1))) else (some false))) else (none)) else (none)) else (none)) else (some true)
end
def geyserlaw07_PrecodeParities.f (k : Nat) (l0 : List (List Int)) (a1 : Int) : Option (Bool) := (geyserlaw07_awake.f).bind fun t196 => (if t196 = true then ((geyserlaw07_Sources.f k l0).bind fun t197 => (geyserlaw07_PrecodeParities.j0 k l0 a1 (!t197))) else (geyserlaw07_PrecodeParities.j0 k l0 a1 true))
theorem geyserlaw07_PrecodeParities.mono_l : ∀ k, (∀ y0 y1 y2, LeO (geyserlaw07_PrecodeParities.j0 k y0 y1 y2) (geyserlaw07_PrecodeParities.j0 (k + 1) y0 y1 y2)) ∧ (∀ y0 y1 y2 y3 y4, LeO (geyserlaw07_PrecodeParities.j1 k y0 y1 y2 y3 y4) (geyserlaw07_PrecodeParities.j1 (k + 1) y0 y1 y2 y3 y4)) ∧ (∀ y0 y1 y2 y3 y4 y5, LeO (geyserlaw07_PrecodeParities.l0 k y0 y1 y2 y3 y4 y5) (geyserlaw07_PrecodeParities.l0 (k + 1) y0 y1 y2 y3 y4 y5))
  | 0 => ⟨fun _ _ _ r h => by simp [geyserlaw07_PrecodeParities.j0] at h, fun _ _ _ _ _ r h => by simp [geyserlaw07_PrecodeParities.j1] at h, fun _ _ _ _ _ _ r h => by simp [geyserlaw07_PrecodeParities.l0] at h⟩
  | k + 1 => by
    obtain ⟨ih0, ih1, ih2⟩ := geyserlaw07_PrecodeParities.mono_l k
    refine ⟨?_, ?_, ?_⟩
    · intro y0 y1 y2
      unfold geyserlaw07_PrecodeParities.j0
      repeat' first
      | (with_reducible exact ih0 _ _ _)
      | (with_reducible exact ih1 _ _ _ _ _)
      | (with_reducible exact ih2 _ _ _ _ _ _)
      | (with_reducible exact geyserlaw07_Sources.mono _ _)
      | (with_reducible exact geyserlaw07_Wrong.mono _ _ _)
      | (with_reducible exact geyserref03_Parities.mono _ _)
      | (with_reducible exact geyserref03_Symbol.mono _ _ _ _)
      | (with_reducible exact precode_Parities.mono _ _ _)
      | (with_reducible exact LeO.refl _)
      | (with_reducible exact LeO.none _)
      | (with_reducible refine LeO.ite ?_ ?_)
      | (with_reducible refine LeO.bind ?_ (fun _ => ?_))
      | exact ih0 _ _ _
      | exact ih1 _ _ _ _ _
      | exact ih2 _ _ _ _ _ _
      | exact geyserlaw07_Sources.mono _ _
      | exact geyserlaw07_Wrong.mono _ _ _
      | exact geyserref03_Parities.mono _ _
      | exact geyserref03_Symbol.mono _ _ _ _
      | exact precode_Parities.mono _ _ _
      | exact LeO.none _
      | refine LeO.ite ?_ ?_
      | refine LeO.bind ?_ (fun _ => ?_)
    · intro y0 y1 y2 y3 y4
      unfold geyserlaw07_PrecodeParities.j1
      repeat' first
      | (with_reducible exact ih0 _ _ _)
      | (with_reducible exact ih1 _ _ _ _ _)
      | (with_reducible exact ih2 _ _ _ _ _ _)
      | (with_reducible exact geyserlaw07_Sources.mono _ _)
      | (with_reducible exact geyserlaw07_Wrong.mono _ _ _)
      | (with_reducible exact geyserref03_Parities.mono _ _)
      | (with_reducible exact geyserref03_Symbol.mono _ _ _ _)
      | (with_reducible exact precode_Parities.mono _ _ _)
      | (with_reducible exact LeO.refl _)
      | (with_reducible exact LeO.none _)
      | (with_reducible refine LeO.ite ?_ ?_)
      | (with_reducible refine LeO.bind ?_ (fun _ => ?_))
      | exact ih0 _ _ _
      | exact ih1 _ _ _ _ _
      | exact ih2 _ _ _ _ _ _
      | exact geyserlaw07_Sources.mono _ _
      | exact geyserlaw07_Wrong.mono _ _ _
      | exact geyserref03_Parities.mono _ _
      | exact geyserref03_Symbol.mono _ _ _ _
      | exact precode_Parities.mono _ _ _
      | exact LeO.none _
      | refine LeO.ite ?_ ?_
      | refine LeO.bind ?_ (fun _ => ?_)
    · intro y0 y1 y2 y3 y4 y5
      unfold geyserlaw07_PrecodeParities.l0
      repeat' first
      | (with_reducible exact ih0 _ _ _)
      | (with_reducible exact ih1 _ _ _ _ _)
      | (with_reducible exact ih2 _ _ _ _ _ _)
      | (with_reducible exact geyserlaw07_Sources.mono _ _)
      | (with_reducible exact geyserlaw07_Wrong.mono _ _ _)
      | (with_reducible exact geyserref03_Parities.mono _ _)
      | (with_reducible exact geyserref03_Symbol.mono _ _ _ _)
      | (with_reducible exact precode_Parities.mono _ _ _)
      | (with_reducible exact LeO.refl _)
      | (with_reducible exact LeO.none _)
      | (with_reducible refine LeO.ite ?_ ?_)
      | (with_reducible refine LeO.bind ?_ (fun _ => ?_))
      | exact ih0 _ _ _
      | exact ih1 _ _ _ _ _
      | exact ih2 _ _ _ _ _ _
      | exact geyserlaw07_Sources.mono _ _
      | exact geyserlaw07_Wrong.mono _ _ _
      | exact geyserref03_Parities.mono _ _
      | exact geyserref03_Symbol.mono _ _ _ _
      | exact precode_Parities.mono _ _ _
      | exact LeO.none _
      | refine LeO.ite ?_ ?_
      | refine LeO.bind ?_ (fun _ => ?_)
theorem geyserlaw07_PrecodeParities.mono : ∀ a0 a1 k, LeO (geyserlaw07_PrecodeParities.f k a0 a1) (geyserlaw07_PrecodeParities.f (k + 1) a0 a1) := by
  intro a0 a1 k
  obtain ⟨ih0, ih1, ih2⟩ := geyserlaw07_PrecodeParities.mono_l k
  unfold geyserlaw07_PrecodeParities.f
  repeat' first
      | (with_reducible exact ih0 _ _ _)
      | (with_reducible exact ih1 _ _ _ _ _)
      | (with_reducible exact ih2 _ _ _ _ _ _)
      | (with_reducible exact geyserlaw07_Sources.mono _ _)
      | (with_reducible exact geyserlaw07_Wrong.mono _ _ _)
      | (with_reducible exact geyserref03_Parities.mono _ _)
      | (with_reducible exact geyserref03_Symbol.mono _ _ _ _)
      | (with_reducible exact precode_Parities.mono _ _ _)
      | (with_reducible exact LeO.refl _)
      | (with_reducible exact LeO.none _)
      | (with_reducible refine LeO.ite ?_ ?_)
      | (with_reducible refine LeO.bind ?_ (fun _ => ?_))
      | exact ih0 _ _ _
      | exact ih1 _ _ _ _ _
      | exact ih2 _ _ _ _ _ _
      | exact geyserlaw07_Sources.mono _ _
      | exact geyserlaw07_Wrong.mono _ _ _
      | exact geyserref03_Parities.mono _ _
      | exact geyserref03_Symbol.mono _ _ _ _
      | exact precode_Parities.mono _ _ _
      | exact LeO.none _
      | refine LeO.ite ?_ ?_
      | refine LeO.bind ?_ (fun _ => ?_)
def geyserlaw07_PrecodeParities.T13 : Bool × List (List Nat × List Nat) := (true, [([], []), ([], []), ([0, 1], [0, 1]), ([2], [2]), ([3], [3]), ([], []), ([], []), ([], []), ([], []), ([7, 8], [7, 8]), ([9], [9]), ([5, 6, 10], [5, 6, 10]), ([11], [11]), ([4, 12], [4, 12])])
def geyserlaw07_PrecodeParities.B13 : List Nat := [0, 0, 3, 7, 15, 0, 0, 0, 0, 384, 896, 2016, 4064, 8191]
theorem geyserlaw07_PrecodeParities.tab13 : rtab .any (opsOf Try.f6 13) = geyserlaw07_PrecodeParities.T13 := by kernel_rfl
theorem geyserlaw07_PrecodeParities.bits13 : waitsOk geyserlaw07_PrecodeParities.T13.2 geyserlaw07_PrecodeParities.B13 = true := by kernel_rfl
set_option maxHeartbeats 8000000 in
set_option maxRecDepth 100000 in
theorem geyserlaw07_PrecodeParities.calls (k : Nat) (A0 : Option Addr) (c0 : Nat) (l0 : List (List Int)) (a1 : Int) (r : Bool) (w : World) (hr0 : Kd.C (Kd.slice 5 (Kd.int .u8)) w A0 l0.length l0) (hc0 : l0.length ≤ c0) (h : geyserlaw07_PrecodeParities.f k l0 a1 = some r) :
    Calls Try.prog 6 #[.slice A0 l0.length c0, .int .i64 a1] w fun e w' => e = .returned (.bool r) ∧ Below w.heap.size w w' := by
  have HR0 := Aside0.mk hr0
  have HC0 := Aside0.mk hc0
  clear hr0 hc0
  have HB := Aside0.mk (Below.refl w.heap.size w)
  have H : ((geyserlaw07_awake.f).bind fun t196 => (if t196 = true then ((geyserlaw07_Sources.f k l0).bind fun t197 => (geyserlaw07_PrecodeParities.j0 k l0 a1 (!t197))) else (geyserlaw07_PrecodeParities.j0 k l0 a1 true))) = some r := h
  clear h
  have HC3 := Aside0.mk H
  clear H
  go_enter Try.func6, Try.ntmps6
  go_upto_region 1 with (fail)
  go_cut [16] (fun v16 wc => ∃ (kq : Nat) (x16_2 : Bool), v16 = .bool x16_2 ∧ Aside0 (geyserlaw07_PrecodeParities.j0 kq l0 a1 x16_2 = some r) ∧ Aside0 (kq ≤ k) ∧ Aside0 (Below w.heap.size w wc))
  case first =>
    have H := HC3.out
    clear HC3
    replace H := Option.bind_eq_some_iff.mp H
    obtain ⟨t196, A40, H⟩ := H
    replace H : (if t196 = true then ((geyserlaw07_Sources.f k l0).bind fun t197 => (geyserlaw07_PrecodeParities.j0 k l0 a1 (!t197))) else (geyserlaw07_PrecodeParities.j0 k l0 a1 true)) = some r := H
    have A4 := Aside0.mk A40
    clear A40
    by_cases c5 : t196 = true
    · subst c5
      have H1 : ((geyserlaw07_Sources.f k l0).bind fun t197 => (geyserlaw07_PrecodeParities.j0 k l0 a1 (!t197))) = some r := by rw [if_pos rfl] at H; exact H
      clear H
      have H := H1
      clear H1
      replace H := Option.bind_eq_some_iff.mp H
      obtain ⟨t197, A60, H⟩ := H
      replace H : (geyserlaw07_PrecodeParities.j0 k l0 a1 (!t197)) = some r := H
      have A6 := Aside0.mk A60
      clear A60
      have H' := Aside0.mk H
      clear H
      go_wp2_with (first | ((with_reducible refine gate_callee (f := 28) rfl ?_); refine goesL_ (some 10) rfl rfl Try.func28 (by kernel_rfl) rfl #[] rfl (by (try simp only [List.map_toArray, List.map_cons, List.map_nil]); first | done | rfl | (simp only [List.length_drop, List.length_take]; rfl)) ?_; (with_reducible refine (geyserlaw07_awake.calls  true _ A4.out).mono ?_); rintro e w' ⟨rfl, ⟨nd, rfl⟩⟩; refine ⟨_, rfl, ?_⟩) | (go_at_call 29; (with_reducible refine (geyserlaw07_Sources.calls k _ _ l0 t197 _ ?side1 ?side2 A6.out).mono ?_); (case side1 => repeat (first | exact (Kd.C_below HR0.out (by repeat (first | (with_reducible first | exact HB.out | apply below_alloc | apply pw_below_drewN | apply below_drew1) | exact HB.out))) | (with_reducible refine Kd.C_alloc ?_ _) | (with_reducible refine Kd.C_drewN ?_ _) | (with_reducible refine Kd.C_drew ?_))); (case side2 => exact HC0.out); rintro e w' ⟨rfl, ⟨nd, rfl⟩⟩))
      go_meet
      case rel => exact ⟨_, (!t197), (by first | rfl | (simp; done) | (simp [*]; done)), H', ⟨by first | omega | exact Nat.le_refl _⟩, ⟨by repeat (first | (with_reducible first | exact HB.out | apply below_alloc | apply pw_below_drewN | apply below_drew1) | exact HB.out)⟩⟩
    · replace c5 := Bool.eq_false_iff.mpr c5
      subst c5
      have H1 : (geyserlaw07_PrecodeParities.j0 k l0 a1 true) = some r := by rw [if_neg (show ¬ (false = true) by decide)] at H; exact H
      clear H
      have H := H1
      clear H1
      have H' := Aside0.mk H
      clear H
      go_wp2_with (first | ((with_reducible refine gate_callee (f := 28) rfl ?_); refine goesL_ (some 10) rfl rfl Try.func28 (by kernel_rfl) rfl #[] rfl (by (try simp only [List.map_toArray, List.map_cons, List.map_nil]); first | done | rfl | (simp only [List.length_drop, List.length_take]; rfl)) ?_; (with_reducible refine (geyserlaw07_awake.calls  false _ A4.out).mono ?_); rintro e w' ⟨rfl, ⟨nd, rfl⟩⟩; refine ⟨_, rfl, ?_⟩))
      go_meet
      case rel => exact ⟨_, (true), (by first | rfl | (simp; done) | (simp [*]; done)), H', ⟨by first | omega | exact Nat.le_refl _⟩, ⟨by repeat (first | (with_reducible first | exact HB.out | apply below_alloc | apply pw_below_drewN | apply below_drew1) | exact HB.out)⟩⟩
  case rest =>
    clear HC3
    try clear c2
    try clear p2
    try clear c5
    try clear c6
    obtain ⟨kq, x16_2, rfl, HA, HJ2, HB⟩ := hcut
    cases kq with
    | zero => exact absurd HA.out (by simp [geyserlaw07_PrecodeParities.j0])
    | succ kj2 =>
      have H := HA.out
      clear HA
      simp only [geyserlaw07_PrecodeParities.j0] at H
      by_cases c7 : x16_2 = true
      · subst c7
        have H1 : ((geyserlaw07_awake.f).bind fun t198 => (some t198)) = some r := by rw [if_pos rfl] at H; exact H
        clear H
        have H := H1
        clear H1
        replace H := Option.bind_eq_some_iff.mp H
        obtain ⟨t198, A80, H⟩ := H
        replace H : (some t198) = some r := H
        have A8 := Aside0.mk A80
        clear A80
        obtain rfl := Option.some.inj H
        go_wp2_with (first | ((with_reducible refine gate_callee (f := 28) rfl ?_); refine goesL_ (some 17) rfl rfl Try.func28 (by kernel_rfl) rfl #[] rfl (by (try simp only [List.map_toArray, List.map_cons, List.map_nil]); first | done | rfl | (simp only [List.length_drop, List.length_take]; rfl)) ?_; (with_reducible refine (geyserlaw07_awake.calls  t198 _ A8.out).mono ?_); rintro e w' ⟨rfl, ⟨nd, rfl⟩⟩; refine ⟨_, rfl, ?_⟩))
        go_ret
        exact ⟨by first | rfl | (simp [errW_none, errW_some] <;> rfl) | (simp [*, errW_none, errW_some] <;> rfl), by repeat (first | (with_reducible first | exact HB.out | apply below_alloc | apply pw_below_drewN | apply below_drew1) | exact HB.out)⟩
      · replace c7 := Bool.eq_false_iff.mpr c7
        subst c7
        have H1 : ((precode_Parities.f kj2 l0 a1).bind fun bt199 => ((geyserlaw07_Wrong.f kj2 l0 a1).bind fun t203 => (if t203 = 0 then ((geyserref03_Parities.f kj2 (l0.length : Int)).bind fun t204 => (if bt199.2 = 0 then (geyserlaw07_PrecodeParities.j1 kj2 l0 a1 bt199.1 t204 ((bt199.1.length : Int) != (t204.length : Int))) else (geyserlaw07_PrecodeParities.j1 kj2 l0 a1 bt199.1 t204 true))) else (if bt199.2 = t203 then (some ((bt199.1.length : Int) == 0)) else (some false))))) = some r := by rw [if_neg (show ¬ (false = true) by decide)] at H; exact H
        clear H
        have H := H1
        clear H1
        replace H := Option.bind_eq_some_iff.mp H
        obtain ⟨⟨t199, t200⟩, A90, H⟩ := H
        replace H : ((geyserlaw07_Wrong.f kj2 l0 a1).bind fun t203 => (if t203 = 0 then ((geyserref03_Parities.f kj2 (l0.length : Int)).bind fun t204 => (if t200 = 0 then (geyserlaw07_PrecodeParities.j1 kj2 l0 a1 t199 t204 ((t199.length : Int) != (t204.length : Int))) else (geyserlaw07_PrecodeParities.j1 kj2 l0 a1 t199 t204 true))) else (if t200 = t203 then (some ((t199.length : Int) == 0)) else (some false)))) = some r := H
        have A9 := Aside0.mk A90
        clear A90
        replace H := Option.bind_eq_some_iff.mp H
        obtain ⟨t203, A100, H⟩ := H
        replace H : (if t203 = 0 then ((geyserref03_Parities.f kj2 (l0.length : Int)).bind fun t204 => (if t200 = 0 then (geyserlaw07_PrecodeParities.j1 kj2 l0 a1 t199 t204 ((t199.length : Int) != (t204.length : Int))) else (geyserlaw07_PrecodeParities.j1 kj2 l0 a1 t199 t204 true))) else (if t200 = t203 then (some ((t199.length : Int) == 0)) else (some false))) = some r := H
        have A10 := Aside0.mk A100
        clear A100
        by_cases c11 : t203 = 0
        · rw [if_pos c11] at H
          have c11b0 : (t203 == 0) = true := beq_iff_eq.mpr c11
          have c11b1 : (t203 != 0) = false := bne_eq_false_iff_eq.mpr c11
          clear c11
          replace H := Option.bind_eq_some_iff.mp H
          obtain ⟨t204, A120, H⟩ := H
          replace H : (if t200 = 0 then (geyserlaw07_PrecodeParities.j1 kj2 l0 a1 t199 t204 ((t199.length : Int) != (t204.length : Int))) else (geyserlaw07_PrecodeParities.j1 kj2 l0 a1 t199 t204 true)) = some r := H
          have A12 := Aside0.mk A120
          clear A120
          have HC13 := Aside0.mk H
          clear H
          go_upto_region 8 with (first | ((with_reducible refine gate_callee (f := 30) rfl ?_); refine goesL_ (some 21) rfl rfl Try.func30 (by kernel_rfl) rfl #[.slice A0 l0.length c0, .int .i64 a1] rfl (by (try simp only [List.map_toArray, List.map_cons, List.map_nil]); first | done | rfl | (simp only [List.length_drop, List.length_take]; rfl)) ?_; (with_reducible refine (precode_Parities.calls kj2 _ _ l0 a1 t199 t200 _ ?side1 ?side2 A9.out).mono ?_); (case side1 => repeat (first | exact (Kd.C_below HR0.out HB.out) | (with_reducible refine Kd.C_alloc ?_ _) | (with_reducible refine Kd.C_drewN ?_ _) | (with_reducible refine Kd.C_drew ?_))); (case side2 => exact HC0.out); rintro e w14 ⟨v201, rfl, ho0, hb⟩; refine ⟨_, rfl, ?_⟩; have n0_ := Aside0.mk (Kd.S_lower ho0 (below_size (by repeat (first | (with_reducible first | exact HB.out | apply below_alloc | apply pw_below_drewN | apply below_drew1) | exact HB.out)))); have n1_ := Aside0.mk (below_step (by repeat (first | (with_reducible first | exact HB.out | apply below_alloc | apply pw_below_drewN | apply below_drew1) | exact HB.out)) hb); clear HB; have HO202 := n0_; have HB := n1_; clear n0_ n1_; (try clear hb); (try clear hb2); (try clear hk); (try clear hi); (try clear ho0)) | ((with_reducible refine gate_callee (f := 31) rfl ?_); refine goesL_ (some 26) rfl rfl Try.func31 (by kernel_rfl) rfl #[.slice A0 l0.length c0, .int .i64 a1] rfl (by (try simp only [List.map_toArray, List.map_cons, List.map_nil]); first | done | rfl | (simp only [List.length_drop, List.length_take]; rfl)) ?_; (with_reducible refine (geyserlaw07_Wrong.calls kj2 _ _ l0 a1 t203 _ ?side1 ?side2 A10.out).mono ?_); (case side1 => repeat (first | exact (Kd.C_below HR0.out HB.out) | (with_reducible refine Kd.C_alloc ?_ _) | (with_reducible refine Kd.C_drewN ?_ _) | (with_reducible refine Kd.C_drew ?_))); (case side2 => exact HC0.out); rintro e w' ⟨rfl, ⟨nd, rfl⟩⟩; refine ⟨_, rfl, ?_⟩) | ((with_reducible refine gate_callee (f := 32) rfl ?_); refine goesL_ (some 39) rfl rfl Try.func32 (by kernel_rfl) rfl #[.int .i64 (l0.length : Int)] rfl (by (try simp only [List.map_toArray, List.map_cons, List.map_nil]); first | done | rfl | (simp only [List.length_drop, List.length_take]; rfl)) ?_; (with_reducible refine (geyserref03_Parities.calls kj2 (l0.length : Int) t204 _ A12.out).mono ?_); rintro e w15 ⟨v205, rfl, ho0, hb⟩; refine ⟨_, rfl, ?_⟩; have n0_ := Aside0.mk (Kd.S_elder' (by (with_reducible repeat (first | apply Kd.S_alloc | apply Kd.S_drewN | apply Kd.S_drew)); exact HO202.out) (Kd.S_base ho0) hb); have n1_ := Aside0.mk (Kd.S_lower (Kd.S_new' ho0 (Kd.S_lt (by (with_reducible repeat (first | apply Kd.S_alloc | apply Kd.S_drewN | apply Kd.S_drew)); exact HO202.out))) (below_size (by repeat (first | (with_reducible first | exact HB.out | apply below_alloc | apply pw_below_drewN | apply below_drew1) | exact HB.out)))); have n2_ := Aside0.mk (below_step (by repeat (first | (with_reducible first | exact HB.out | apply below_alloc | apply pw_below_drewN | apply below_drew1) | exact HB.out)) hb); clear HO202; clear HB; have HO202 := n0_; have HO206 := n1_; have HB := n2_; clear n0_ n1_ n2_; (try clear hb); (try clear hb2); (try clear hk); (try clear hi); (try clear ho0)))
          (try simp only [Act.put, List.setIfInBounds_toArray, List.set_cons_zero, List.set_cons_succ])
          go_cut [48] (fun v48 wc => ∃ (kq : Nat) (x48_12 : Bool), v48 = .bool x48_12 ∧ Aside0 (geyserlaw07_PrecodeParities.j1 kq l0 a1 t199 t204 x48_12 = some r) ∧ Aside0 (kq ≤ kj2) ∧ Aside0 (Kd.S (Kd.slice 5 (Kd.int .u8)) 31 wc w.heap.size (fun k_ => some k_ ≠ (v205 : Value).ownBlock) v201 t199) ∧ Aside0 (Kd.S (Kd.slice 5 (Kd.int .u8)) 31 wc w.heap.size (fun k_ => some k_ ≠ (v201 : Value).ownBlock) v205 t204) ∧ Aside0 (Below w.heap.size w wc))
          case first =>
            have H := HC13.out
            clear HC13
            by_cases c16 : t200 = 0
            · rw [if_pos c16] at H
              have c16b0 : (t200 == 0) = true := beq_iff_eq.mpr c16
              have c16b1 : (t200 != 0) = false := bne_eq_false_iff_eq.mpr c16
              clear c16
              (first | rw [c16b0] | (simp only [i64_w, i32_w]; rw [c16b0]) | skip)
              have H' := Aside0.mk H
              clear H
              obtain ⟨Ao17, co17, eo17⟩ := Kd.S_slice HO202.out
              subst eo17
              obtain ⟨Ao18, co18, eo18⟩ := Kd.S_slice HO206.out
              subst eo18
              go_wp2
              go_meet
              case rel => exact ⟨_, (((t199.length : Int) != (t204.length : Int))), (by first | rfl | (simp; done) | (simp [*]; done)), H', ⟨by have := HJ2.out; first | omega | exact Nat.le_refl _⟩, ⟨by (with_reducible repeat (first | apply Kd.S_alloc | apply Kd.S_drewN | apply Kd.S_drew)); exact Kd.S_mono HO202.out (fun _ hk => by first | exact hk.2 | exact hk.1 | exact hk.1.1 | exact hk.1.2 | exact hk.2.1 | exact hk.2.2)⟩, ⟨by (with_reducible repeat (first | apply Kd.S_alloc | apply Kd.S_drewN | apply Kd.S_drew)); exact Kd.S_mono HO206.out (fun _ hk => by first | exact hk.2 | exact hk.1 | exact hk.1.1 | exact hk.1.2 | exact hk.2.1 | exact hk.2.2)⟩, ⟨by repeat (first | (with_reducible first | exact HB.out | apply below_alloc | apply pw_below_drewN | apply below_drew1) | exact HB.out)⟩⟩
            · rw [if_neg c16] at H
              have c16b0 : (t200 == 0) = false := beq_eq_false_iff_ne.mpr c16
              have c16b1 : (t200 != 0) = true := bne_iff_ne.mpr c16
              (first | rw [c16b0] | (simp only [i64_w, i32_w]; rw [c16b0]) | skip)
              have H' := Aside0.mk H
              clear H
              go_wp2
              go_meet
              case rel => exact ⟨_, (true), (by first | rfl | (simp; done) | (simp [*]; done)), H', ⟨by have := HJ2.out; first | omega | exact Nat.le_refl _⟩, ⟨by (with_reducible repeat (first | apply Kd.S_alloc | apply Kd.S_drewN | apply Kd.S_drew)); exact Kd.S_mono HO202.out (fun _ hk => by first | exact hk.2 | exact hk.1 | exact hk.1.1 | exact hk.1.2 | exact hk.2.1 | exact hk.2.2)⟩, ⟨by (with_reducible repeat (first | apply Kd.S_alloc | apply Kd.S_drewN | apply Kd.S_drew)); exact Kd.S_mono HO206.out (fun _ hk => by first | exact hk.2 | exact hk.1 | exact hk.1.1 | exact hk.1.2 | exact hk.2.1 | exact hk.2.2)⟩, ⟨by repeat (first | (with_reducible first | exact HB.out | apply below_alloc | apply pw_below_drewN | apply below_drew1) | exact HB.out)⟩⟩
          case rest =>
            clear HC13
            try clear c1
            try clear c2
            try clear p2
            try clear c3
            try clear c5
            try clear c6
            try clear c7
            try clear c11
            try clear c11b0
            try clear c11b1
            try clear c16
            try clear c16b0
            try clear c16b1
            try clear p2
            obtain ⟨kq, x48_12, rfl, HA, HJ12, HO_5, HO_8, HB⟩ := hcut
            cases kq with
            | zero => exact absurd HA.out (by simp [geyserlaw07_PrecodeParities.j1])
            | succ kj12 =>
              have H := HA.out
              clear HA
              simp only [geyserlaw07_PrecodeParities.j1] at H
              by_cases c19 : x48_12 = true
              · subst c19
                have H1 : (some false) = some r := by rw [if_pos rfl] at H; exact H
                clear H
                have H := H1
                clear H1
                obtain rfl := Option.some.inj H
                go_wp2
                go_ret
                exact ⟨by first | rfl | (simp [errW_none, errW_some] <;> rfl) | (simp [*, errW_none, errW_some] <;> rfl), by repeat (first | (with_reducible first | exact HB.out | apply below_alloc | apply pw_below_drewN | apply below_drew1) | exact HB.out)⟩
              · replace c19 := Bool.eq_false_iff.mpr c19
                subst c19
                have H1 : (geyserlaw07_PrecodeParities.l0 kj12 l0 a1 t199 t204 (t204.length : Int) 0) = some r := by rw [if_neg (show ¬ (false = true) by decide)] at H; exact H
                clear H
                have H := H1
                clear H1
                have H' := Aside0.mk H
                clear H
                obtain ⟨Ao20, co20, eo20⟩ := Kd.S_slice HO_8.out
                subst eo20
                go_wp2
                go_loopg [51] kj12 (fun kq v51 w' => ∃ (x51_3 : Int), v51 = .int .i64 x51_3 ∧ Aside0 (geyserlaw07_PrecodeParities.l0 kq l0 a1 t199 t204 (t204.length : Int) x51_3 = some r) ∧ Aside0 (kq ≤ kj12) ∧ Aside0 (Kd.S (Kd.slice 5 (Kd.int .u8)) 31 w' w.heap.size (fun k_ => some k_ ≠ ((.slice Ao20 t204.length co20) : Value).ownBlock) v201 t199) ∧ Aside0 (Kd.S (Kd.slice 5 (Kd.int .u8)) 31 w' w.heap.size (fun k_ => some k_ ≠ (v201 : Value).ownBlock) (.slice Ao20 t204.length co20) t204) ∧ Aside0 (Below w.heap.size w w'))
                case atStart => exact ⟨(0), (by first | rfl | (simp; done) | (simp [*]; done)), H', ⟨Nat.le_refl _⟩, ⟨by (with_reducible repeat (first | apply Kd.S_alloc | apply Kd.S_drewN | apply Kd.S_drew)); exact HO_5.out⟩, ⟨by (with_reducible repeat (first | apply Kd.S_alloc | apply Kd.S_drewN | apply Kd.S_drew)); exact HO_8.out⟩, ⟨by repeat (first | (with_reducible first | exact HB.out | apply below_alloc | apply pw_below_drewN | apply below_drew1) | exact HB.out)⟩⟩
                case round =>
                  clear H'
                  try clear c1
                  try clear c2
                  try clear p2
                  try clear c3
                  try clear c5
                  try clear c6
                  try clear c7
                  try clear c11
                  try clear c11b0
                  try clear c11b1
                  try clear c16
                  try clear c16b0
                  try clear c16b1
                  try clear c19
                  try clear p2
                  obtain ⟨x51_3, rfl, HA, HK3, HO_5, HO_8, HB⟩ := hrel
                  cases gk with
                  | zero => exact absurd HA.out (by simp [geyserlaw07_PrecodeParities.l0])
                  | succ k3 =>
                    have H := HA.out
                    clear HA
                    simp only [geyserlaw07_PrecodeParities.l0] at H
                    by_cases c21 : x51_3 < (t204.length : Int)
                    · rw [if_pos c21] at H
                      have c21b0 : decide (x51_3 < (t204.length : Int)) = true := decide_eq_true c21
                      clear c21
                      by_cases c22 : 0 ≤ x51_3
                      · rw [if_pos c22] at H
                        have c22b0 : decide (0 ≤ x51_3) = true := decide_eq_true c22
                        clear c22
                        by_cases c23 : x51_3 < (t199.length : Int)
                        · rw [if_pos c23] at H
                          have c23b0 : decide (x51_3 < (t199.length : Int)) = true := decide_eq_true c23
                          clear c23
                          by_cases c24 : x51_3 < (t204.length : Int)
                          · rw [if_pos c24] at H
                            have c24b0 : decide (x51_3 < (t204.length : Int)) = true := decide_eq_true c24
                            clear c24
                            replace H := Option.bind_eq_some_iff.mp H
                            obtain ⟨t209, A250, H⟩ := H
                            replace H : (if (strOfNums (rd_L1 t199 x51_3)).toList = (strOfNums t209).toList then (geyserlaw07_PrecodeParities.l0 k3 l0 a1 t199 t204 (t204.length : Int) (wrap64 (x51_3 + 1))) else (some false)) = some r := H
                            have A25 := Aside0.mk A250
                            clear A250
                            by_cases c26 : (strOfNums (rd_L1 t199 x51_3)).toList = (strOfNums t209).toList
                            · rw [if_pos c26] at H
                              have c26b0 : ((strOfNums (rd_L1 t199 x51_3)).toList == (strOfNums t209).toList) = true := beq_iff_eq.mpr c26
                              have c26b1 : ((strOfNums (rd_L1 t199 x51_3)).toList != (strOfNums t209).toList) = false := bne_eq_false_iff_eq.mpr c26
                              clear c26
                              have H' := Aside0.mk H
                              clear H
                              try go_wp2
                              have n0_ := Aside0.mk (Kd.S_drew HO_5.out)
                              have n1_ := Aside0.mk (Kd.S_drew HO_8.out)
                              have n2_ := Aside0.mk (below_drew1 HB.out)
                              clear HO_5
                              clear HO_8
                              clear HB
                              have HO_5 := n0_
                              have HO_8 := n1_
                              have HB := n2_
                              clear n0_ n1_ n2_
                              obtain ⟨Ao28, co28, eo28⟩ := Kd.S_slice HO_5.out
                              (first | subst eo28 | (injection eo28 with f1_ f2_ f3_; have f4_ := f1_.symm; have f5_ := f3_.symm; clear f1_ f2_ f3_; subst f4_; subst f5_))
                              have p207 : 0 ≤ (x51_3 : Int) := of_decide_eq_true (by first | (with_reducible assumption) | assumption)
                              have q207 : x51_3 < (t199.length : Int) := of_decide_eq_true (by first | (with_reducible assumption) | assumption)
                              obtain ⟨ad207, A207_0, c207_0, e207, hx207_0, hl207_0, hi207_0⟩ := at_L1 (Kd.S_reads' HO_5.out).2.2 x51_3 p207 q207
                              cases e207
                              obtain ⟨ce207, hce207, hMe207, hcc207⟩ := Kd.S_get HO_5.out [] x51_3 p207 (by first | exact q207 | exact of_decide_eq_true (by first | (with_reducible assumption) | assumption) | (have e_ := (Kd.S_reads' HO_5.out).1; omega))
                              obtain ⟨ve207_0, rfl, ge207_0⟩ := hMe207
                              have hv207_0 := hcc207 0 _ rfl
                              rw [Nat.add_zero, show ((Kd.slice 5 (Kd.int .u8))).sz = 1 from rfl, Nat.mul_one] at hv207_0
                              replace hv207_0 := Option.some.inj (hv207_0.symm.trans hx207_0)
                              rw [hv207_0] at ge207_0
                              have HL207_0 := Aside0.mk (show Kd.R (Kd.int .u8) 5 _ _ _ _ (rd_L1 t199 x51_3) from ge207_0)
                              clear hv207_0 ge207_0
                              clear hcc207 hce207
                              have HR207_0 := Aside0.mk hi207_0
                              have HC207_0 := Aside0.mk hl207_0
                              clear hi207_0 hl207_0
                              replace p207 := eq_true p207
                              replace q207 := eq_true q207
                              have p208 : 0 ≤ (x51_3 : Int) := of_decide_eq_true (by first | (with_reducible assumption) | assumption)
                              have q208 : x51_3 < (t204.length : Int) := of_decide_eq_true (by first | (with_reducible assumption) | assumption)
                              obtain ⟨ad208, A208_0, c208_0, e208, hx208_0, hl208_0, hi208_0⟩ := at_L1 (Kd.S_reads' HO_8.out).2.2 x51_3 p208 q208
                              cases e208
                              obtain ⟨ce208, hce208, hMe208, hcc208⟩ := Kd.S_get HO_8.out [] x51_3 p208 (by first | exact q208 | exact of_decide_eq_true (by first | (with_reducible assumption) | assumption) | (have e_ := (Kd.S_reads' HO_8.out).1; omega))
                              obtain ⟨ve208_0, rfl, ge208_0⟩ := hMe208
                              have hv208_0 := hcc208 0 _ rfl
                              rw [Nat.add_zero, show ((Kd.slice 5 (Kd.int .u8))).sz = 1 from rfl, Nat.mul_one] at hv208_0
                              replace hv208_0 := Option.some.inj (hv208_0.symm.trans hx208_0)
                              rw [hv208_0] at ge208_0
                              have HL208_0 := Aside0.mk (show Kd.R (Kd.int .u8) 5 _ _ _ _ (rd_L1 t204 x51_3) from ge208_0)
                              clear hv208_0 ge208_0
                              clear hcc208 hce208
                              have HR208_0 := Aside0.mk hi208_0
                              have HC208_0 := Aside0.mk hl208_0
                              clear hi208_0 hl208_0
                              replace p208 := eq_true p208
                              replace q208 := eq_true q208
                              have hcv29 := Kd.C_string (P := Try.prog) (A := A207_0) (c := c207_0) Try.underlying31 Try.underlying5 Try.underlying9 (by repeat (first | (with_reducible exact HR207_0.out) | (with_reducible refine Kd.C_alloc ?_ _) | (with_reducible refine Kd.C_drewN ?_ _) | (with_reducible refine Kd.C_drew ?_) | exact HR207_0.out))
                              (try (have hcv29q := fun nq_ : Nat => Kd.C_string (P := Try.prog) (A := A207_0) (c := c207_0) Try.underlying31 Try.underlying5 Try.underlying9 (Kd.C_drewN HR207_0.out nq_)))
                              (try (have hcv29q := fun nq_ : Nat => Kd.C_string (P := Try.prog) (A := A207_0) (c := c207_0) Try.underlying31 Try.underlying5 Try.underlying9 (Kd.C_drewN HR207_0.out nq_)))
                              (try (have hcv29q := fun nq_ : Nat => Kd.C_string (P := Try.prog) (A := A207_0) (c := c207_0) Try.underlying31 Try.underlying5 Try.underlying9 (Kd.C_drewN HR207_0.out nq_)))
                              refine start_ (n := 14) (S := fun w' => (w'.cell? (ad207.add (x51_3).toNat) = some (.slice A207_0 (rd_L1 t199 x51_3).length c207_0) ∧ w'.cell? (ad208.add (x51_3).toNat) = some (.slice A208_0 (rd_L1 t204 x51_3).length c208_0)) ∧ (Kd.int .u8).C w' A207_0 (rd_L1 t199 x51_3).length (rd_L1 t199 x51_3)) (ds := []) #[false, false, false, false, false, false, false, false, false, false, false, false, false, false] (by kernel_rfl) rfl rfl ⟨⟨hx207_0, hx208_0⟩, (by repeat (first | (with_reducible exact HR207_0.out) | (with_reducible refine Kd.C_alloc ?_ _) | (with_reducible refine Kd.C_drewN ?_ _) | (with_reducible refine Kd.C_drew ?_) | exact HR207_0.out))⟩ (fun hHeld => ?_); obtain ⟨hHeld, hHC_⟩ := hHeld; refine with_tabW geyserlaw07_PrecodeParities.tab13 geyserlaw07_PrecodeParities.bits13 (fun HT_ HW_ => ?_)
                              generalize wr.drew = w27 at HO_5 HO_8 HB HL207_0 HL208_0 HR207_0 HR208_0 hx207_0 hx208_0 hHeld hHC_ ⊢
                              refine pure_ (i := 0) (N := some 54) (v := ?_) (a' := ?_) #[true, false, false, false, false, false, false, false, false, false, false, false, false, false] rfl rfl (any_of HT_.out (by kernel_rfl)) (fun _ _ _ h => h) (Or.inl ⟨by rfl, ?_⟩) ?_ ?_
                              rotate_left
                              · intro w'
                                go_simp
                                with_reducible rfl
                              rotate_left
                              · simp only [Act.put, List.setIfInBounds_toArray, List.set_cons_zero, List.set_cons_succ, i64_w, i32_w]
                                rfl
                              refine pure_ (i := 1) (N := some 55) (v := ?_) (a' := ?_) #[true, true, false, false, false, false, false, false, false, false, false, false, false, false] rfl rfl (any_of HT_.out (by kernel_rfl)) (fun _ _ _ h => h) (Or.inl ⟨by rfl, ?_⟩) ?_ ?_
                              rotate_left
                              · intro w'
                                go_simp
                                with_reducible rfl
                              rotate_left
                              · simp only [Act.put, List.setIfInBounds_toArray, List.set_cons_zero, List.set_cons_succ, i64_w, i32_w]
                                rfl
                              refine pure_ (i := 2) (N := some 56) (v := ?_) (a' := ?_) #[true, true, true, false, false, false, false, false, false, false, false, false, false, false] rfl rfl (any_of HT_.out (by kernel_rfl)) (fun _ _ _ h => h) (Or.inl ⟨by rfl, ?_⟩) ?_ ?_
                              rotate_left
                              · intro w'
                                go_simp
                                with_reducible rfl
                              rotate_left
                              · simp only [Act.put, List.setIfInBounds_toArray, List.set_cons_zero, List.set_cons_succ, i64_w, i32_w]
                                rfl
                              refine pure_ (i := 5) (N := some 59) (v := ?_) (a' := ?_) #[true, true, true, false, false, true, false, false, false, false, false, false, false, false] rfl rfl (any_of HT_.out (by kernel_rfl)) (fun _ _ _ h => h) (Or.inl ⟨by rfl, ?_⟩) ?_ ?_
                              rotate_left
                              · intro w'
                                go_simp
                                with_reducible rfl
                              rotate_left
                              · simp only [Act.put, List.setIfInBounds_toArray, List.set_cons_zero, List.set_cons_succ, i64_w, i32_w]
                                rfl
                              refine pure_ (i := 6) (N := some 60) (v := ?_) (a' := ?_) #[true, true, true, false, false, true, true, false, false, false, false, false, false, false] rfl rfl (any_of HT_.out (by kernel_rfl)) (fun _ _ _ h => h) (Or.inl ⟨by rfl, ?_⟩) ?_ ?_
                              rotate_left
                              · intro w'
                                go_simp
                                with_reducible rfl
                              rotate_left
                              · simp only [Act.put, List.setIfInBounds_toArray, List.set_cons_zero, List.set_cons_succ, i64_w, i32_w]
                                rfl
                              refine pure_ (i := 7) (N := some 61) (v := ?_) (a' := ?_) #[true, true, true, false, false, true, true, true, false, false, false, false, false, false] rfl rfl (any_of HT_.out (by kernel_rfl)) (fun _ _ _ h => h) (Or.inl ⟨by rfl, ?_⟩) ?_ ?_
                              rotate_left
                              · intro w'
                                go_simp
                                with_reducible rfl
                              rotate_left
                              · simp only [Act.put, List.setIfInBounds_toArray, List.set_cons_zero, List.set_cons_succ, i64_w, i32_w]
                                rfl
                              refine pure_ (i := 8) (N := some 62) (v := ?_) (a' := ?_) #[true, true, true, false, false, true, true, true, true, false, false, false, false, false] rfl rfl (any_of HT_.out (by kernel_rfl)) (fun _ _ _ h => h) (Or.inl ⟨by rfl, ?_⟩) ?_ ?_
                              rotate_left
                              · intro w'
                                go_simp
                                with_reducible rfl
                              rotate_left
                              · simp only [Act.put, List.setIfInBounds_toArray, List.set_cons_zero, List.set_cons_succ, i64_w, i32_w]
                                rfl
                              refine pure_ (i := 9) (N := some 63) (v := ?_) (a' := ?_) #[true, true, true, false, false, true, true, true, true, true, false, false, false, false] rfl rfl (any_of HT_.out (by kernel_rfl)) (fun _ _ _ h => h) (Or.inl ⟨by rfl, ?_⟩) ?_ ?_
                              rotate_left
                              · intro w'
                                go_simp
                                with_reducible rfl
                              rotate_left
                              · simp only [Act.put, List.setIfInBounds_toArray, List.set_cons_zero, List.set_cons_succ, i64_w, i32_w]
                                rfl
                              refine take_ (i := 3) (N := some 57) (v := ?_) (a' := ?_) #[true, true, true, true, false, true, true, true, true, true, false, false, false, false] rfl rfl (take_ofW HT_.out HW_.out (by kernel_rfl)) (fun _ _ _ h => h) (Or.inl ⟨by rfl, ?_⟩) ⟨hHeld, hHC_⟩ ?_ ?_
                              rotate_left
                              · rintro w' ⟨⟨s0, s1⟩, s9_⟩
                                go_simp
                                with_reducible rfl
                              rotate_left
                              · simp only [Act.put, List.setIfInBounds_toArray, List.set_cons_zero, List.set_cons_succ, i64_w, i32_w]
                                rfl
                              refine take_ (i := 4) (N := some 58) (v := ?_) (a' := ?_) #[true, true, true, true, true, true, true, true, true, true, false, false, false, false] rfl rfl (take_ofW HT_.out HW_.out (by kernel_rfl)) (fun _ _ _ h => h) (Or.inl ⟨by rfl, ?_⟩) ⟨hHeld, hHC_⟩ ?_ ?_
                              rotate_left
                              · rintro w' ⟨_, s9_⟩
                                have hcv9_ := Kd.C_string (P := Try.prog) (A := A207_0) (c := c207_0) Try.underlying31 Try.underlying5 Try.underlying9 s9_
                                go_simp
                                with_reducible rfl
                              rotate_left
                              · simp only [Act.put, List.setIfInBounds_toArray, List.set_cons_zero, List.set_cons_succ, i64_w, i32_w]
                                rfl
                              refine take_ (i := 10) (N := some 64) (v := ?_) (a' := ?_) #[true, true, true, true, true, true, true, true, true, true, true, false, false, false] rfl rfl (take_ofW HT_.out HW_.out (by kernel_rfl)) (fun _ _ _ h => h) (Or.inl ⟨by rfl, ?_⟩) ⟨hHeld, hHC_⟩ ?_ ?_
                              rotate_left
                              · rintro w' ⟨⟨s0, s1⟩, s9_⟩
                                go_simp
                                with_reducible rfl
                              rotate_left
                              · simp only [Act.put, List.setIfInBounds_toArray, List.set_cons_zero, List.set_cons_succ, i64_w, i32_w]
                                rfl
                              refine one_ (i := 11) (N := some 65) #[true, true, true, true, true, true, true, true, true, true, true, true, false, false] rfl rfl (one_of HT_.out (by kernel_rfl)) (by decide) (fun K hK => ?_)
                              refine goes_ Try.func33 (by kernel_rfl) rfl #[.slice A0 l0.length c0, .int .i64 a1, .slice A208_0 (rd_L1 t204 x51_3).length c208_0] (by rfl) rfl rfl (by (try simp only [List.map_toArray, List.map_cons, List.map_nil]); first | done | rfl | (simp only [List.length_drop, List.length_take]; rfl)) ?_
                              with_reducible refine (geyserref03_Symbol.calls k3 _ _ l0 a1 _ _ (rd_L1 t204 x51_3) t209 _ ?side1 ?side2 ?side3 ?side4 A25.out).mono ?_
                              (case side1 => repeat (first | exact (Kd.C_below HR0.out HB.out) | (with_reducible refine Kd.C_alloc ?_ _) | (with_reducible refine Kd.C_drewN ?_ _) | (with_reducible refine Kd.C_drew ?_)))
                              (case side2 => exact HC0.out)
                              (case side3 => repeat (first | exact (by repeat (first | (with_reducible exact HR208_0.out) | (with_reducible refine Kd.C_alloc ?_ _) | (with_reducible refine Kd.C_drewN ?_ _) | (with_reducible refine Kd.C_drew ?_) | exact HR208_0.out)) | (with_reducible refine Kd.C_alloc ?_ _) | (with_reducible refine Kd.C_drewN ?_ _) | (with_reducible refine Kd.C_drew ?_)))
                              (case side4 => exact HC208_0.out)
                              rintro e w30 ⟨v210, rfl, ho0, hb⟩
                              have HS0_ := (hb.cell (World.block_lt_of_cell? _ _ (hHeld.1))).trans (hHeld.1)
                              have HS1_ := (hb.cell (World.block_lt_of_cell? _ _ (hHeld.2))).trans (hHeld.2)
                              refine ⟨_, rfl, ?_⟩
                              have n0_ := Aside0.mk (Kd.S_elder' (by (with_reducible repeat (first | apply Kd.S_alloc | apply Kd.S_drewN | apply Kd.S_drew)); exact HO_5.out) (Kd.R_base ho0) hb)
                              have n1_ := Aside0.mk (Kd.S_elder' (by (with_reducible repeat (first | apply Kd.S_alloc | apply Kd.S_drewN | apply Kd.S_drew)); exact HO_8.out) (Kd.R_base ho0) hb)
                              have n2_ := Aside0.mk (Kd.R_elder' (by (with_reducible repeat (first | apply Kd.R_alloc | apply Kd.R_drewN | apply Kd.R_drew)); exact HL207_0.out) (Kd.R_base ho0) hb)
                              have n3_ := Aside0.mk (Kd.R_elder' (by (with_reducible repeat (first | apply Kd.R_alloc | apply Kd.R_drewN | apply Kd.R_drew)); exact HL208_0.out) (Kd.R_base ho0) hb)
                              have n4_ := Aside0.mk (Kd.R_lower (Kd.R_new' (Kd.R_new' ho0 (Kd.R_lt (by (with_reducible repeat (first | apply Kd.R_alloc | apply Kd.R_drewN | apply Kd.R_drew)); exact HL207_0.out))) (Kd.R_lt (by (with_reducible repeat (first | apply Kd.R_alloc | apply Kd.R_drewN | apply Kd.R_drew)); exact HL208_0.out))) (below_size (by repeat (first | (with_reducible first | exact HB.out | apply below_alloc | apply pw_below_drewN | apply below_drew1) | exact HB.out))))
                              have n5_ := Aside0.mk (Kd.C_below (by repeat (first | (with_reducible exact HR207_0.out) | (with_reducible refine Kd.C_alloc ?_ _) | (with_reducible refine Kd.C_drewN ?_ _) | (with_reducible refine Kd.C_drew ?_) | exact HR207_0.out)) hb)
                              have n6_ := Aside0.mk (Kd.C_below (by repeat (first | (with_reducible exact HR208_0.out) | (with_reducible refine Kd.C_alloc ?_ _) | (with_reducible refine Kd.C_drewN ?_ _) | (with_reducible refine Kd.C_drew ?_) | exact HR208_0.out)) hb)
                              have n7_ := Aside0.mk (below_step (by repeat (first | (with_reducible first | exact HB.out | apply below_alloc | apply pw_below_drewN | apply below_drew1) | exact HB.out)) hb)
                              clear HO_5
                              clear HO_8
                              clear HL207_0
                              clear HL208_0
                              clear HR207_0
                              clear HR208_0
                              clear HB
                              have HO_5 := n0_
                              have HO_8 := n1_
                              have HL207_0 := n2_
                              have HL208_0 := n3_
                              have HO211 := n4_
                              have HR207_0 := n5_
                              have HR208_0 := n6_
                              have HB := n7_
                              clear n0_ n1_ n2_ n3_ n4_ n5_ n6_ n7_
                              (try clear hb)
                              (try clear hb2)
                              (try clear hk)
                              (try clear hi)
                              (try clear ho0)
                              refine hK.out _ _ ⟨⟨HS0_, HS1_⟩, by first | exact HR207_0.out | exact hHC_⟩ (fun hHeld => ?_); (try clear hHC_); obtain ⟨hHeld, hHC_⟩ := hHeld
                              clear hK K
                              refine norm_ (a' := ?_) ?_ ?_
                              rotate_left
                              · show Act.put _ (some 65) _ = _
                                simp only [Act.put, List.setIfInBounds_toArray, List.set_cons_zero, List.set_cons_succ, i64_w, i32_w]
                                rfl
                              refine one_ (i := 12) (N := some 66) #[true, true, true, true, true, true, true, true, true, true, true, true, true, false] rfl rfl (one_of HT_.out (by kernel_rfl)) (by decide) (fun K hK => ?_)
                              have hcv31 := own_string (P := Try.prog) Try.underlying31 Try.underlying5 Try.underlying9 (Kd.own_of_R HO211.out)
                              refine value_ (w1 := ?_) (v := ?_) (by rfl) rfl ?_ ?_
                              rotate_left 2
                              · go_simp
                                constructor
                                · rfl
                                · rfl
                              clear hcv31
                              refine hK.out _ _ ⟨hHeld, by first | exact HR207_0.out | exact hHC_⟩ (fun hHeld => ?_); (try clear hHC_); obtain ⟨hHeld, hHC_⟩ := hHeld
                              clear hK K
                              refine norm_ (a' := ?_) ?_ ?_
                              rotate_left
                              · show Act.put _ (some 66) _ = _
                                simp only [Act.put, List.setIfInBounds_toArray, List.set_cons_zero, List.set_cons_succ, i64_w, i32_w]
                                rfl
                              refine pure_ (i := 13) (N := some 67) (v := ?_) (a' := ?_) #[true, true, true, true, true, true, true, true, true, true, true, true, true, true] rfl rfl (any_of HT_.out (by kernel_rfl)) (fun _ _ _ h => h) (Or.inl ⟨by rfl, ?_⟩) ?_ ?_
                              rotate_left
                              · intro w'
                                go_simp
                                with_reducible rfl
                              rotate_left
                              · simp only [Act.put, List.setIfInBounds_toArray, List.set_cons_zero, List.set_cons_succ, i64_w, i32_w]
                                rfl
                              refine done_ (done_of HT_.out (by kernel_rfl)) ?_
                              try go_wp2
                              go_roundg k3
                              case measure => have := HJ2.out; have := HJ12.out; have := HK3.out; omega
                              case rel => exact ⟨(wrap64 (x51_3 + 1)), (by first | rfl | (simp; done) | (simp [*]; done)), H', ⟨by have := HJ2.out; have := HJ12.out; have := HK3.out; omega⟩, ⟨by (with_reducible repeat (first | apply Kd.S_alloc | apply Kd.S_drewN | apply Kd.S_drew)); exact Kd.S_mono HO_5.out (fun _ hk => by first | exact hk.2 | exact hk.1 | exact hk.1.1 | exact hk.1.2 | exact hk.2.1 | exact hk.2.2)⟩, ⟨by (with_reducible repeat (first | apply Kd.S_alloc | apply Kd.S_drewN | apply Kd.S_drew)); exact Kd.S_mono HO_8.out (fun _ hk => by first | exact hk.2 | exact hk.1 | exact hk.1.1 | exact hk.1.2 | exact hk.2.1 | exact hk.2.2)⟩, ⟨by repeat (first | (with_reducible first | exact HB.out | apply below_alloc | apply pw_below_drewN | apply below_drew1) | exact HB.out)⟩⟩
                            · rw [if_neg c26] at H
                              have c26b0 : ((strOfNums (rd_L1 t199 x51_3)).toList == (strOfNums t209).toList) = false := beq_eq_false_iff_ne.mpr c26
                              have c26b1 : ((strOfNums (rd_L1 t199 x51_3)).toList != (strOfNums t209).toList) = true := bne_iff_ne.mpr c26
                              obtain rfl := Option.some.inj H
                              try go_wp2
                              have n0_ := Aside0.mk (Kd.S_drew HO_5.out)
                              have n1_ := Aside0.mk (Kd.S_drew HO_8.out)
                              have n2_ := Aside0.mk (below_drew1 HB.out)
                              clear HO_5
                              clear HO_8
                              clear HB
                              have HO_5 := n0_
                              have HO_8 := n1_
                              have HB := n2_
                              clear n0_ n1_ n2_
                              obtain ⟨Ao34, co34, eo34⟩ := Kd.S_slice HO_5.out
                              (first | subst eo34 | (injection eo34 with f1_ f2_ f3_; have f4_ := f1_.symm; have f5_ := f3_.symm; clear f1_ f2_ f3_; subst f4_; subst f5_))
                              have p207 : 0 ≤ (x51_3 : Int) := of_decide_eq_true (by first | (with_reducible assumption) | assumption)
                              have q207 : x51_3 < (t199.length : Int) := of_decide_eq_true (by first | (with_reducible assumption) | assumption)
                              obtain ⟨ad207, A207_0, c207_0, e207, hx207_0, hl207_0, hi207_0⟩ := at_L1 (Kd.S_reads' HO_5.out).2.2 x51_3 p207 q207
                              cases e207
                              obtain ⟨ce207, hce207, hMe207, hcc207⟩ := Kd.S_get HO_5.out [] x51_3 p207 (by first | exact q207 | exact of_decide_eq_true (by first | (with_reducible assumption) | assumption) | (have e_ := (Kd.S_reads' HO_5.out).1; omega))
                              obtain ⟨ve207_0, rfl, ge207_0⟩ := hMe207
                              have hv207_0 := hcc207 0 _ rfl
                              rw [Nat.add_zero, show ((Kd.slice 5 (Kd.int .u8))).sz = 1 from rfl, Nat.mul_one] at hv207_0
                              replace hv207_0 := Option.some.inj (hv207_0.symm.trans hx207_0)
                              rw [hv207_0] at ge207_0
                              have HL207_0 := Aside0.mk (show Kd.R (Kd.int .u8) 5 _ _ _ _ (rd_L1 t199 x51_3) from ge207_0)
                              clear hv207_0 ge207_0
                              clear hcc207 hce207
                              have HR207_0 := Aside0.mk hi207_0
                              have HC207_0 := Aside0.mk hl207_0
                              clear hi207_0 hl207_0
                              replace p207 := eq_true p207
                              replace q207 := eq_true q207
                              have p208 : 0 ≤ (x51_3 : Int) := of_decide_eq_true (by first | (with_reducible assumption) | assumption)
                              have q208 : x51_3 < (t204.length : Int) := of_decide_eq_true (by first | (with_reducible assumption) | assumption)
                              obtain ⟨ad208, A208_0, c208_0, e208, hx208_0, hl208_0, hi208_0⟩ := at_L1 (Kd.S_reads' HO_8.out).2.2 x51_3 p208 q208
                              cases e208
                              obtain ⟨ce208, hce208, hMe208, hcc208⟩ := Kd.S_get HO_8.out [] x51_3 p208 (by first | exact q208 | exact of_decide_eq_true (by first | (with_reducible assumption) | assumption) | (have e_ := (Kd.S_reads' HO_8.out).1; omega))
                              obtain ⟨ve208_0, rfl, ge208_0⟩ := hMe208
                              have hv208_0 := hcc208 0 _ rfl
                              rw [Nat.add_zero, show ((Kd.slice 5 (Kd.int .u8))).sz = 1 from rfl, Nat.mul_one] at hv208_0
                              replace hv208_0 := Option.some.inj (hv208_0.symm.trans hx208_0)
                              rw [hv208_0] at ge208_0
                              have HL208_0 := Aside0.mk (show Kd.R (Kd.int .u8) 5 _ _ _ _ (rd_L1 t204 x51_3) from ge208_0)
                              clear hv208_0 ge208_0
                              clear hcc208 hce208
                              have HR208_0 := Aside0.mk hi208_0
                              have HC208_0 := Aside0.mk hl208_0
                              clear hi208_0 hl208_0
                              replace p208 := eq_true p208
                              replace q208 := eq_true q208
                              have hcv35 := Kd.C_string (P := Try.prog) (A := A207_0) (c := c207_0) Try.underlying31 Try.underlying5 Try.underlying9 (by repeat (first | (with_reducible exact HR207_0.out) | (with_reducible refine Kd.C_alloc ?_ _) | (with_reducible refine Kd.C_drewN ?_ _) | (with_reducible refine Kd.C_drew ?_) | exact HR207_0.out))
                              (try (have hcv35q := fun nq_ : Nat => Kd.C_string (P := Try.prog) (A := A207_0) (c := c207_0) Try.underlying31 Try.underlying5 Try.underlying9 (Kd.C_drewN HR207_0.out nq_)))
                              (try (have hcv35q := fun nq_ : Nat => Kd.C_string (P := Try.prog) (A := A207_0) (c := c207_0) Try.underlying31 Try.underlying5 Try.underlying9 (Kd.C_drewN HR207_0.out nq_)))
                              (try (have hcv35q := fun nq_ : Nat => Kd.C_string (P := Try.prog) (A := A207_0) (c := c207_0) Try.underlying31 Try.underlying5 Try.underlying9 (Kd.C_drewN HR207_0.out nq_)))
                              refine start_ (n := 14) (S := fun w' => (w'.cell? (ad207.add (x51_3).toNat) = some (.slice A207_0 (rd_L1 t199 x51_3).length c207_0) ∧ w'.cell? (ad208.add (x51_3).toNat) = some (.slice A208_0 (rd_L1 t204 x51_3).length c208_0)) ∧ (Kd.int .u8).C w' A207_0 (rd_L1 t199 x51_3).length (rd_L1 t199 x51_3)) (ds := []) #[false, false, false, false, false, false, false, false, false, false, false, false, false, false] (by kernel_rfl) rfl rfl ⟨⟨hx207_0, hx208_0⟩, (by repeat (first | (with_reducible exact HR207_0.out) | (with_reducible refine Kd.C_alloc ?_ _) | (with_reducible refine Kd.C_drewN ?_ _) | (with_reducible refine Kd.C_drew ?_) | exact HR207_0.out))⟩ (fun hHeld => ?_); obtain ⟨hHeld, hHC_⟩ := hHeld; refine with_tabW geyserlaw07_PrecodeParities.tab13 geyserlaw07_PrecodeParities.bits13 (fun HT_ HW_ => ?_)
                              generalize wr.drew = w33 at HO_5 HO_8 HB HL207_0 HL208_0 HR207_0 HR208_0 hx207_0 hx208_0 hHeld hHC_ ⊢
                              refine pure_ (i := 0) (N := some 54) (v := ?_) (a' := ?_) #[true, false, false, false, false, false, false, false, false, false, false, false, false, false] rfl rfl (any_of HT_.out (by kernel_rfl)) (fun _ _ _ h => h) (Or.inl ⟨by rfl, ?_⟩) ?_ ?_
                              rotate_left
                              · intro w'
                                go_simp
                                with_reducible rfl
                              rotate_left
                              · simp only [Act.put, List.setIfInBounds_toArray, List.set_cons_zero, List.set_cons_succ, i64_w, i32_w]
                                rfl
                              refine pure_ (i := 1) (N := some 55) (v := ?_) (a' := ?_) #[true, true, false, false, false, false, false, false, false, false, false, false, false, false] rfl rfl (any_of HT_.out (by kernel_rfl)) (fun _ _ _ h => h) (Or.inl ⟨by rfl, ?_⟩) ?_ ?_
                              rotate_left
                              · intro w'
                                go_simp
                                with_reducible rfl
                              rotate_left
                              · simp only [Act.put, List.setIfInBounds_toArray, List.set_cons_zero, List.set_cons_succ, i64_w, i32_w]
                                rfl
                              refine pure_ (i := 2) (N := some 56) (v := ?_) (a' := ?_) #[true, true, true, false, false, false, false, false, false, false, false, false, false, false] rfl rfl (any_of HT_.out (by kernel_rfl)) (fun _ _ _ h => h) (Or.inl ⟨by rfl, ?_⟩) ?_ ?_
                              rotate_left
                              · intro w'
                                go_simp
                                with_reducible rfl
                              rotate_left
                              · simp only [Act.put, List.setIfInBounds_toArray, List.set_cons_zero, List.set_cons_succ, i64_w, i32_w]
                                rfl
                              refine pure_ (i := 5) (N := some 59) (v := ?_) (a' := ?_) #[true, true, true, false, false, true, false, false, false, false, false, false, false, false] rfl rfl (any_of HT_.out (by kernel_rfl)) (fun _ _ _ h => h) (Or.inl ⟨by rfl, ?_⟩) ?_ ?_
                              rotate_left
                              · intro w'
                                go_simp
                                with_reducible rfl
                              rotate_left
                              · simp only [Act.put, List.setIfInBounds_toArray, List.set_cons_zero, List.set_cons_succ, i64_w, i32_w]
                                rfl
                              refine pure_ (i := 6) (N := some 60) (v := ?_) (a' := ?_) #[true, true, true, false, false, true, true, false, false, false, false, false, false, false] rfl rfl (any_of HT_.out (by kernel_rfl)) (fun _ _ _ h => h) (Or.inl ⟨by rfl, ?_⟩) ?_ ?_
                              rotate_left
                              · intro w'
                                go_simp
                                with_reducible rfl
                              rotate_left
                              · simp only [Act.put, List.setIfInBounds_toArray, List.set_cons_zero, List.set_cons_succ, i64_w, i32_w]
                                rfl
                              refine pure_ (i := 7) (N := some 61) (v := ?_) (a' := ?_) #[true, true, true, false, false, true, true, true, false, false, false, false, false, false] rfl rfl (any_of HT_.out (by kernel_rfl)) (fun _ _ _ h => h) (Or.inl ⟨by rfl, ?_⟩) ?_ ?_
                              rotate_left
                              · intro w'
                                go_simp
                                with_reducible rfl
                              rotate_left
                              · simp only [Act.put, List.setIfInBounds_toArray, List.set_cons_zero, List.set_cons_succ, i64_w, i32_w]
                                rfl
                              refine pure_ (i := 8) (N := some 62) (v := ?_) (a' := ?_) #[true, true, true, false, false, true, true, true, true, false, false, false, false, false] rfl rfl (any_of HT_.out (by kernel_rfl)) (fun _ _ _ h => h) (Or.inl ⟨by rfl, ?_⟩) ?_ ?_
                              rotate_left
                              · intro w'
                                go_simp
                                with_reducible rfl
                              rotate_left
                              · simp only [Act.put, List.setIfInBounds_toArray, List.set_cons_zero, List.set_cons_succ, i64_w, i32_w]
                                rfl
                              refine pure_ (i := 9) (N := some 63) (v := ?_) (a' := ?_) #[true, true, true, false, false, true, true, true, true, true, false, false, false, false] rfl rfl (any_of HT_.out (by kernel_rfl)) (fun _ _ _ h => h) (Or.inl ⟨by rfl, ?_⟩) ?_ ?_
                              rotate_left
                              · intro w'
                                go_simp
                                with_reducible rfl
                              rotate_left
                              · simp only [Act.put, List.setIfInBounds_toArray, List.set_cons_zero, List.set_cons_succ, i64_w, i32_w]
                                rfl
                              refine take_ (i := 3) (N := some 57) (v := ?_) (a' := ?_) #[true, true, true, true, false, true, true, true, true, true, false, false, false, false] rfl rfl (take_ofW HT_.out HW_.out (by kernel_rfl)) (fun _ _ _ h => h) (Or.inl ⟨by rfl, ?_⟩) ⟨hHeld, hHC_⟩ ?_ ?_
                              rotate_left
                              · rintro w' ⟨⟨s0, s1⟩, s9_⟩
                                go_simp
                                with_reducible rfl
                              rotate_left
                              · simp only [Act.put, List.setIfInBounds_toArray, List.set_cons_zero, List.set_cons_succ, i64_w, i32_w]
                                rfl
                              refine take_ (i := 4) (N := some 58) (v := ?_) (a' := ?_) #[true, true, true, true, true, true, true, true, true, true, false, false, false, false] rfl rfl (take_ofW HT_.out HW_.out (by kernel_rfl)) (fun _ _ _ h => h) (Or.inl ⟨by rfl, ?_⟩) ⟨hHeld, hHC_⟩ ?_ ?_
                              rotate_left
                              · rintro w' ⟨_, s9_⟩
                                have hcv9_ := Kd.C_string (P := Try.prog) (A := A207_0) (c := c207_0) Try.underlying31 Try.underlying5 Try.underlying9 s9_
                                go_simp
                                with_reducible rfl
                              rotate_left
                              · simp only [Act.put, List.setIfInBounds_toArray, List.set_cons_zero, List.set_cons_succ, i64_w, i32_w]
                                rfl
                              refine take_ (i := 10) (N := some 64) (v := ?_) (a' := ?_) #[true, true, true, true, true, true, true, true, true, true, true, false, false, false] rfl rfl (take_ofW HT_.out HW_.out (by kernel_rfl)) (fun _ _ _ h => h) (Or.inl ⟨by rfl, ?_⟩) ⟨hHeld, hHC_⟩ ?_ ?_
                              rotate_left
                              · rintro w' ⟨⟨s0, s1⟩, s9_⟩
                                go_simp
                                with_reducible rfl
                              rotate_left
                              · simp only [Act.put, List.setIfInBounds_toArray, List.set_cons_zero, List.set_cons_succ, i64_w, i32_w]
                                rfl
                              refine one_ (i := 11) (N := some 65) #[true, true, true, true, true, true, true, true, true, true, true, true, false, false] rfl rfl (one_of HT_.out (by kernel_rfl)) (by decide) (fun K hK => ?_)
                              refine goes_ Try.func33 (by kernel_rfl) rfl #[.slice A0 l0.length c0, .int .i64 a1, .slice A208_0 (rd_L1 t204 x51_3).length c208_0] (by rfl) rfl rfl (by (try simp only [List.map_toArray, List.map_cons, List.map_nil]); first | done | rfl | (simp only [List.length_drop, List.length_take]; rfl)) ?_
                              with_reducible refine (geyserref03_Symbol.calls k3 _ _ l0 a1 _ _ (rd_L1 t204 x51_3) t209 _ ?side1 ?side2 ?side3 ?side4 A25.out).mono ?_
                              (case side1 => repeat (first | exact (Kd.C_below HR0.out HB.out) | (with_reducible refine Kd.C_alloc ?_ _) | (with_reducible refine Kd.C_drewN ?_ _) | (with_reducible refine Kd.C_drew ?_)))
                              (case side2 => exact HC0.out)
                              (case side3 => repeat (first | exact (by repeat (first | (with_reducible exact HR208_0.out) | (with_reducible refine Kd.C_alloc ?_ _) | (with_reducible refine Kd.C_drewN ?_ _) | (with_reducible refine Kd.C_drew ?_) | exact HR208_0.out)) | (with_reducible refine Kd.C_alloc ?_ _) | (with_reducible refine Kd.C_drewN ?_ _) | (with_reducible refine Kd.C_drew ?_)))
                              (case side4 => exact HC208_0.out)
                              rintro e w36 ⟨v210, rfl, ho0, hb⟩
                              have HS0_ := (hb.cell (World.block_lt_of_cell? _ _ (hHeld.1))).trans (hHeld.1)
                              have HS1_ := (hb.cell (World.block_lt_of_cell? _ _ (hHeld.2))).trans (hHeld.2)
                              refine ⟨_, rfl, ?_⟩
                              have n0_ := Aside0.mk (Kd.S_elder' (by (with_reducible repeat (first | apply Kd.S_alloc | apply Kd.S_drewN | apply Kd.S_drew)); exact HO_5.out) (Kd.R_base ho0) hb)
                              have n1_ := Aside0.mk (Kd.S_elder' (by (with_reducible repeat (first | apply Kd.S_alloc | apply Kd.S_drewN | apply Kd.S_drew)); exact HO_8.out) (Kd.R_base ho0) hb)
                              have n2_ := Aside0.mk (Kd.R_elder' (by (with_reducible repeat (first | apply Kd.R_alloc | apply Kd.R_drewN | apply Kd.R_drew)); exact HL207_0.out) (Kd.R_base ho0) hb)
                              have n3_ := Aside0.mk (Kd.R_elder' (by (with_reducible repeat (first | apply Kd.R_alloc | apply Kd.R_drewN | apply Kd.R_drew)); exact HL208_0.out) (Kd.R_base ho0) hb)
                              have n4_ := Aside0.mk (Kd.R_lower (Kd.R_new' (Kd.R_new' ho0 (Kd.R_lt (by (with_reducible repeat (first | apply Kd.R_alloc | apply Kd.R_drewN | apply Kd.R_drew)); exact HL207_0.out))) (Kd.R_lt (by (with_reducible repeat (first | apply Kd.R_alloc | apply Kd.R_drewN | apply Kd.R_drew)); exact HL208_0.out))) (below_size (by repeat (first | (with_reducible first | exact HB.out | apply below_alloc | apply pw_below_drewN | apply below_drew1) | exact HB.out))))
                              have n5_ := Aside0.mk (Kd.C_below (by repeat (first | (with_reducible exact HR207_0.out) | (with_reducible refine Kd.C_alloc ?_ _) | (with_reducible refine Kd.C_drewN ?_ _) | (with_reducible refine Kd.C_drew ?_) | exact HR207_0.out)) hb)
                              have n6_ := Aside0.mk (Kd.C_below (by repeat (first | (with_reducible exact HR208_0.out) | (with_reducible refine Kd.C_alloc ?_ _) | (with_reducible refine Kd.C_drewN ?_ _) | (with_reducible refine Kd.C_drew ?_) | exact HR208_0.out)) hb)
                              have n7_ := Aside0.mk (below_step (by repeat (first | (with_reducible first | exact HB.out | apply below_alloc | apply pw_below_drewN | apply below_drew1) | exact HB.out)) hb)
                              clear HO_5
                              clear HO_8
                              clear HL207_0
                              clear HL208_0
                              clear HR207_0
                              clear HR208_0
                              clear HB
                              have HO_5 := n0_
                              have HO_8 := n1_
                              have HL207_0 := n2_
                              have HL208_0 := n3_
                              have HO211 := n4_
                              have HR207_0 := n5_
                              have HR208_0 := n6_
                              have HB := n7_
                              clear n0_ n1_ n2_ n3_ n4_ n5_ n6_ n7_
                              (try clear hb)
                              (try clear hb2)
                              (try clear hk)
                              (try clear hi)
                              (try clear ho0)
                              refine hK.out _ _ ⟨⟨HS0_, HS1_⟩, by first | exact HR207_0.out | exact hHC_⟩ (fun hHeld => ?_); (try clear hHC_); obtain ⟨hHeld, hHC_⟩ := hHeld
                              clear hK K
                              refine norm_ (a' := ?_) ?_ ?_
                              rotate_left
                              · show Act.put _ (some 65) _ = _
                                simp only [Act.put, List.setIfInBounds_toArray, List.set_cons_zero, List.set_cons_succ, i64_w, i32_w]
                                rfl
                              refine one_ (i := 12) (N := some 66) #[true, true, true, true, true, true, true, true, true, true, true, true, true, false] rfl rfl (one_of HT_.out (by kernel_rfl)) (by decide) (fun K hK => ?_)
                              have hcv37 := own_string (P := Try.prog) Try.underlying31 Try.underlying5 Try.underlying9 (Kd.own_of_R HO211.out)
                              refine value_ (w1 := ?_) (v := ?_) (by rfl) rfl ?_ ?_
                              rotate_left 2
                              · go_simp
                                constructor
                                · rfl
                                · rfl
                              clear hcv37
                              refine hK.out _ _ ⟨hHeld, by first | exact HR207_0.out | exact hHC_⟩ (fun hHeld => ?_); (try clear hHC_); obtain ⟨hHeld, hHC_⟩ := hHeld
                              clear hK K
                              refine norm_ (a' := ?_) ?_ ?_
                              rotate_left
                              · show Act.put _ (some 66) _ = _
                                simp only [Act.put, List.setIfInBounds_toArray, List.set_cons_zero, List.set_cons_succ, i64_w, i32_w]
                                rfl
                              refine pure_ (i := 13) (N := some 67) (v := ?_) (a' := ?_) #[true, true, true, true, true, true, true, true, true, true, true, true, true, true] rfl rfl (any_of HT_.out (by kernel_rfl)) (fun _ _ _ h => h) (Or.inl ⟨by rfl, ?_⟩) ?_ ?_
                              rotate_left
                              · intro w'
                                go_simp
                                with_reducible rfl
                              rotate_left
                              · simp only [Act.put, List.setIfInBounds_toArray, List.set_cons_zero, List.set_cons_succ, i64_w, i32_w]
                                rfl
                              refine done_ (done_of HT_.out (by kernel_rfl)) ?_
                              try go_wp2
                              go_ret
                              exact ⟨by first | rfl | (simp [errW_none, errW_some] <;> rfl) | (simp [*, errW_none, errW_some] <;> rfl), by repeat (first | (with_reducible first | exact HB.out | apply below_alloc | apply pw_below_drewN | apply below_drew1) | exact HB.out)⟩
                          · rw [if_neg c24] at H
                            exact absurd H (by simp)
                        · rw [if_neg c23] at H
                          exact absurd H (by simp)
                      · rw [if_neg c22] at H
                        exact absurd H (by simp)
                    · rw [if_neg c21] at H
                      have c21b0 : decide (x51_3 < (t204.length : Int)) = false := decide_eq_false c21
                      clear c21
                      obtain rfl := Option.some.inj H
                      go_wp2
                      go_ret
                      exact ⟨by first | rfl | (simp [errW_none, errW_some] <;> rfl) | (simp [*, errW_none, errW_some] <;> rfl), by repeat (first | (with_reducible first | exact HB.out | apply below_alloc | apply pw_below_drewN | apply below_drew1) | exact HB.out)⟩
        · rw [if_neg c11] at H
          have c11b0 : (t203 == 0) = false := beq_eq_false_iff_ne.mpr c11
          have c11b1 : (t203 != 0) = true := bne_iff_ne.mpr c11
          by_cases c39 : t200 = t203
          · rw [if_pos c39] at H
            have c39b0 : (t200 == t203) = true := beq_iff_eq.mpr c39
            have c39b1 : (t200 != t203) = false := bne_eq_false_iff_eq.mpr c39
            clear c39
            obtain rfl := Option.some.inj H
            go_wp2_with (first | ((with_reducible refine gate_callee (f := 30) rfl ?_); refine goesL_ (some 21) rfl rfl Try.func30 (by kernel_rfl) rfl #[.slice A0 l0.length c0, .int .i64 a1] rfl (by (try simp only [List.map_toArray, List.map_cons, List.map_nil]); first | done | rfl | (simp only [List.length_drop, List.length_take]; rfl)) ?_; (with_reducible refine (precode_Parities.calls kj2 _ _ l0 a1 t199 t200 _ ?side1 ?side2 A9.out).mono ?_); (case side1 => repeat (first | exact (Kd.C_below HR0.out HB.out) | (with_reducible refine Kd.C_alloc ?_ _) | (with_reducible refine Kd.C_drewN ?_ _) | (with_reducible refine Kd.C_drew ?_))); (case side2 => exact HC0.out); rintro e w40 ⟨v201, rfl, ho0, hb⟩; refine ⟨_, rfl, ?_⟩; have n0_ := Aside0.mk (Kd.S_lower ho0 (below_size (by repeat (first | (with_reducible first | exact HB.out | apply below_alloc | apply pw_below_drewN | apply below_drew1) | exact HB.out)))); have n1_ := Aside0.mk (below_step (by repeat (first | (with_reducible first | exact HB.out | apply below_alloc | apply pw_below_drewN | apply below_drew1) | exact HB.out)) hb); clear HB; have HO202 := n0_; have HB := n1_; clear n0_ n1_; (try clear hb); (try clear hb2); (try clear hk); (try clear hi); (try clear ho0)) | ((with_reducible refine gate_callee (f := 31) rfl ?_); refine goesL_ (some 26) rfl rfl Try.func31 (by kernel_rfl) rfl #[.slice A0 l0.length c0, .int .i64 a1] rfl (by (try simp only [List.map_toArray, List.map_cons, List.map_nil]); first | done | rfl | (simp only [List.length_drop, List.length_take]; rfl)) ?_; (with_reducible refine (geyserlaw07_Wrong.calls kj2 _ _ l0 a1 t203 _ ?side1 ?side2 A10.out).mono ?_); (case side1 => repeat (first | exact (Kd.C_below HR0.out HB.out) | (with_reducible refine Kd.C_alloc ?_ _) | (with_reducible refine Kd.C_drewN ?_ _) | (with_reducible refine Kd.C_drew ?_))); (case side2 => exact HC0.out); rintro e w' ⟨rfl, ⟨nd, rfl⟩⟩; refine ⟨_, rfl, ?_⟩; obtain ⟨Ao41, co41, eo41⟩ := Kd.S_slice HO202.out; subst eo41))
            go_ret
            exact ⟨by first | rfl | (simp [errW_none, errW_some] <;> rfl) | (simp [*, errW_none, errW_some] <;> rfl), by repeat (first | (with_reducible first | exact HB.out | apply below_alloc | apply pw_below_drewN | apply below_drew1) | exact HB.out)⟩
          · rw [if_neg c39] at H
            have c39b0 : (t200 == t203) = false := beq_eq_false_iff_ne.mpr c39
            have c39b1 : (t200 != t203) = true := bne_iff_ne.mpr c39
            obtain rfl := Option.some.inj H
            go_wp2_with (first | ((with_reducible refine gate_callee (f := 30) rfl ?_); refine goesL_ (some 21) rfl rfl Try.func30 (by kernel_rfl) rfl #[.slice A0 l0.length c0, .int .i64 a1] rfl (by (try simp only [List.map_toArray, List.map_cons, List.map_nil]); first | done | rfl | (simp only [List.length_drop, List.length_take]; rfl)) ?_; (with_reducible refine (precode_Parities.calls kj2 _ _ l0 a1 t199 t200 _ ?side1 ?side2 A9.out).mono ?_); (case side1 => repeat (first | exact (Kd.C_below HR0.out HB.out) | (with_reducible refine Kd.C_alloc ?_ _) | (with_reducible refine Kd.C_drewN ?_ _) | (with_reducible refine Kd.C_drew ?_))); (case side2 => exact HC0.out); rintro e w42 ⟨v201, rfl, ho0, hb⟩; refine ⟨_, rfl, ?_⟩; have n0_ := Aside0.mk (Kd.S_lower ho0 (below_size (by repeat (first | (with_reducible first | exact HB.out | apply below_alloc | apply pw_below_drewN | apply below_drew1) | exact HB.out)))); have n1_ := Aside0.mk (below_step (by repeat (first | (with_reducible first | exact HB.out | apply below_alloc | apply pw_below_drewN | apply below_drew1) | exact HB.out)) hb); clear HB; have HO202 := n0_; have HB := n1_; clear n0_ n1_; (try clear hb); (try clear hb2); (try clear hk); (try clear hi); (try clear ho0)) | ((with_reducible refine gate_callee (f := 31) rfl ?_); refine goesL_ (some 26) rfl rfl Try.func31 (by kernel_rfl) rfl #[.slice A0 l0.length c0, .int .i64 a1] rfl (by (try simp only [List.map_toArray, List.map_cons, List.map_nil]); first | done | rfl | (simp only [List.length_drop, List.length_take]; rfl)) ?_; (with_reducible refine (geyserlaw07_Wrong.calls kj2 _ _ l0 a1 t203 _ ?side1 ?side2 A10.out).mono ?_); (case side1 => repeat (first | exact (Kd.C_below HR0.out HB.out) | (with_reducible refine Kd.C_alloc ?_ _) | (with_reducible refine Kd.C_drewN ?_ _) | (with_reducible refine Kd.C_drew ?_))); (case side2 => exact HC0.out); rintro e w' ⟨rfl, ⟨nd, rfl⟩⟩; refine ⟨_, rfl, ?_⟩))
            go_ret
            exact ⟨by first | rfl | (simp [errW_none, errW_some] <;> rfl) | (simp [*, errW_none, errW_some] <;> rfl), by repeat (first | (with_reducible first | exact HB.out | apply below_alloc | apply pw_below_drewN | apply below_drew1) | exact HB.out)⟩

end Go.Proofs.Ytcmigmldecacpaa.QPrecodeParities
