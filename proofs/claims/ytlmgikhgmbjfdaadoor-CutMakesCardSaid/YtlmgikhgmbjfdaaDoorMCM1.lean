/- Machine-made by a program of this claim: functions of the Go program as Lean functions, and that its calls do what these say. Lean checks it. -/
import Derived.Test.YtlmgikhgmbjfdaaDoorMCM0

namespace Go.Proofs.YtlmgikhgmbjfdaaDoor.QDig
open Go.RowKit Go.Proofs.YtlmgikhgmbjfdaaDoorW.PrintWords Go.Proofs.YtlmgikhgmbjfdaaDoorW.PrintLast Go.Proofs.YtlmgikhgmbjfdaaDoorW.PrintMore
attribute [local go_sem] max2_int min2_int max_two min_two max_three min_three max_four min_four   -- for this text's walks alone
set_option linter.unusedVariables false
set_option linter.unusedSimpArgs false

/-! ### sum_prime: function 68 -/
def sum_prime.l0 : Nat → Int → Int → Option (Bool)
  | 0, _, _ => none
  | k + 1, x0, x3 => if (IntKind.u64.wrap (x3 * x3)) ≤ x0 then (if x3 = 0 then (none) else (if (Int.tmod x0 x3) = 0 then (some false) else (sum_prime.l0 k x0 (IntKind.u64.wrap (x3 + 1))))) else (some true)
def sum_prime.f (k : Nat) (a0 : Int) : Option (Bool) := sum_prime.l0 k a0 2
theorem sum_prime.mono_l : ∀ k, (∀ y0 y1, LeO (sum_prime.l0 k y0 y1) (sum_prime.l0 (k + 1) y0 y1))
  | 0 => fun _ _ r h => by simp [sum_prime.l0] at h
  | k + 1 => by
    have ih0 := sum_prime.mono_l k
    · intro y0 y1
      unfold sum_prime.l0
      repeat' first
      | (with_reducible exact ih0 _ _)
      | (with_reducible exact LeO.refl _)
      | (with_reducible exact LeO.none _)
      | (with_reducible refine LeO.ite ?_ ?_)
      | (with_reducible refine LeO.bind ?_ (fun _ => ?_))
      | exact ih0 _ _
      | exact LeO.none _
      | refine LeO.ite ?_ ?_
      | refine LeO.bind ?_ (fun _ => ?_)
theorem sum_prime.mono : ∀ a0 k, LeO (sum_prime.f k a0) (sum_prime.f (k + 1) a0) := by
  intro a0 k
  have ih0 := sum_prime.mono_l k
  unfold sum_prime.f
  repeat' first
      | (with_reducible exact ih0 _ _)
      | (with_reducible exact LeO.refl _)
      | (with_reducible exact LeO.none _)
      | (with_reducible refine LeO.ite ?_ ?_)
      | (with_reducible refine LeO.bind ?_ (fun _ => ?_))
      | exact ih0 _ _
      | exact LeO.none _
      | refine LeO.ite ?_ ?_
      | refine LeO.bind ?_ (fun _ => ?_)
set_option maxHeartbeats 8000000 in
set_option maxRecDepth 100000 in
theorem sum_prime.calls (k : Nat) (a0 : Int) (r : Bool) (w : World) (h : sum_prime.f k a0 = some r) :
    Calls Tryd.prog 68 #[.int .u64 a0] w fun e w' => e = .returned (.bool r) ∧ Drawn0 w w' := by
  have H : (sum_prime.l0 k a0 2) = some r := h
  clear h
  have H' := Aside0.mk H
  clear H
  go_enter Tryd.func68, Tryd.ntmps68
  go_wp2
  go_loopg [3] k (fun kq v3 w' => ∃ (x3_1 : Int), v3 = .int .u64 x3_1 ∧ Aside0 (sum_prime.l0 kq a0 x3_1 = some r) ∧ Aside0 (kq ≤ k) ∧ Drawn0 w w')
  case atStart => exact ⟨(2), (by first | rfl | (simp; done) | (simp [*]; done)), H', ⟨Nat.le_refl _⟩, by repeat (first | exact Drawn0.refl _ | apply Drawn0.step)⟩
  case round =>
    clear H'
    obtain ⟨x3_1, rfl, HA, HK1, ⟨m1, rfl⟩⟩ := hrel
    cases gk with
    | zero => exact absurd HA.out (by simp [sum_prime.l0])
    | succ k1 =>
      have H := HA.out
      clear HA
      simp only [sum_prime.l0] at H
      by_cases c2 : (IntKind.u64.wrap (x3_1 * x3_1)) ≤ a0
      · rw [if_pos c2] at H
        have c2b0 : decide ((IntKind.u64.wrap (x3_1 * x3_1)) ≤ a0) = true := decide_eq_true c2
        clear c2
        by_cases c3 : x3_1 = 0
        · rw [if_pos c3] at H
          exact absurd H (by simp)
        · rw [if_neg c3] at H
          have c3b0 : (x3_1 == 0) = false := beq_eq_false_iff_ne.mpr c3
          have c3b1 : (x3_1 != 0) = true := bne_iff_ne.mpr c3
          by_cases c4 : (Int.tmod a0 x3_1) = 0
          · rw [if_pos c4] at H
            have c4b0 : ((Int.tmod a0 x3_1) == 0) = true := beq_iff_eq.mpr c4
            have c4b1 : ((Int.tmod a0 x3_1) != 0) = false := bne_eq_false_iff_eq.mpr c4
            clear c4
            obtain rfl := Option.some.inj H
            go_wp2
            go_ret
            exact ⟨by first | rfl | (simp; done) | (simp [*]; done), by repeat (first | exact Drawn0.refl _ | apply Drawn0.step)⟩
          · rw [if_neg c4] at H
            have c4b0 : ((Int.tmod a0 x3_1) == 0) = false := beq_eq_false_iff_ne.mpr c4
            have c4b1 : ((Int.tmod a0 x3_1) != 0) = true := bne_iff_ne.mpr c4
            have H' := Aside0.mk H
            clear H
            go_wp2
            go_roundg k1
            case measure => have := HK1.out; omega
            case rel => exact ⟨(IntKind.u64.wrap (x3_1 + 1)), (by first | rfl | (simp; done) | (simp [*]; done)), H', ⟨by have := HK1.out; omega⟩, by repeat (first | exact Drawn0.refl _ | apply Drawn0.step)⟩
      · rw [if_neg c2] at H
        have c2b0 : decide ((IntKind.u64.wrap (x3_1 * x3_1)) ≤ a0) = false := decide_eq_false c2
        clear c2
        obtain rfl := Option.some.inj H
        go_wp2
        go_ret
        exact ⟨by first | rfl | (simp; done) | (simp [*]; done), by repeat (first | exact Drawn0.refl _ | apply Drawn0.step)⟩

/-! ### bits_Mul64: function 87 -/
def bits_Mul64.f (a0 : Int) (a1 : Int) : Option (Int × Int) := some (IntKind.u64.wrap ((IntKind.u64.wrap ((IntKind.u64.wrap ((a0 / 4294967296) * (a1 / 4294967296))) + ((IntKind.u64.wrap ((IntKind.u64.wrap ((a0 / 4294967296) * (Go.bits .and .u64 a1 4294967295))) + ((IntKind.u64.wrap ((Go.bits .and .u64 a0 4294967295) * (Go.bits .and .u64 a1 4294967295))) / 4294967296))) / 4294967296))) + ((IntKind.u64.wrap ((Go.bits .and .u64 (IntKind.u64.wrap ((IntKind.u64.wrap ((a0 / 4294967296) * (Go.bits .and .u64 a1 4294967295))) + ((IntKind.u64.wrap ((Go.bits .and .u64 a0 4294967295) * (Go.bits .and .u64 a1 4294967295))) / 4294967296))) 4294967295) + (IntKind.u64.wrap ((Go.bits .and .u64 a0 4294967295) * (a1 / 4294967296))))) / 4294967296)), IntKind.u64.wrap (a0 * a1))
set_option maxHeartbeats 8000000 in
set_option maxRecDepth 100000 in
theorem bits_Mul64.calls (a0 : Int) (a1 : Int) (r1 : Int) (r2 : Int) (w : World) (h : bits_Mul64.f a0 a1 = some (r1, r2)) :
    Calls Tryd.prog 87 #[.int .u64 a0, .int .u64 a1] w fun e w' => e = .returned (.tuple #[.int .u64 r1, .int .u64 r2]) ∧ Drawn0 w w' := by
  have H : (some (IntKind.u64.wrap ((IntKind.u64.wrap ((IntKind.u64.wrap ((a0 / 4294967296) * (a1 / 4294967296))) + ((IntKind.u64.wrap ((IntKind.u64.wrap ((a0 / 4294967296) * (Go.bits .and .u64 a1 4294967295))) + ((IntKind.u64.wrap ((Go.bits .and .u64 a0 4294967295) * (Go.bits .and .u64 a1 4294967295))) / 4294967296))) / 4294967296))) + ((IntKind.u64.wrap ((Go.bits .and .u64 (IntKind.u64.wrap ((IntKind.u64.wrap ((a0 / 4294967296) * (Go.bits .and .u64 a1 4294967295))) + ((IntKind.u64.wrap ((Go.bits .and .u64 a0 4294967295) * (Go.bits .and .u64 a1 4294967295))) / 4294967296))) 4294967295) + (IntKind.u64.wrap ((Go.bits .and .u64 a0 4294967295) * (a1 / 4294967296))))) / 4294967296)), IntKind.u64.wrap (a0 * a1))) = some (r1, r2) := h
  clear h
  simp only [Option.some.injEq, Prod.mk.injEq] at H
  obtain ⟨rfl, rfl⟩ := H
  go_enter Tryd.func87, Tryd.ntmps87
  go_wp2
  go_ret2
  exact ⟨by first | rfl | (simp; done) | (simp [*]; done), by repeat (first | exact Drawn0.refl _ | apply Drawn0.step)⟩

/-! ### sum_below: function 81 -/
def sum_below.f (a0 : Int) (a1 : Int) : Option (Bool) := (bits_Mul64.f a0 a0).bind fun bt101 => ((bits_Mul64.f bt101.2 a0).bind fun bt103 => (if (IntKind.u64.wrap ((IntKind.u64.wrap (bt101.1 * a0)) + bt103.1)) < (IntKind.u64.wrap (a1 * 4294967296)) then (some true) else (if (IntKind.u64.wrap ((IntKind.u64.wrap (bt101.1 * a0)) + bt103.1)) = (IntKind.u64.wrap (a1 * 4294967296)) then (some (bt103.2 == 0)) else (some false))))
set_option maxHeartbeats 8000000 in
set_option maxRecDepth 100000 in
theorem sum_below.calls (a0 : Int) (a1 : Int) (r : Bool) (w : World) (h : sum_below.f a0 a1 = some r) :
    Calls Tryd.prog 81 #[.int .u64 a0, .int .u64 a1] w fun e w' => e = .returned (.bool r) ∧ Drawn0 w w' := by
  have H : ((bits_Mul64.f a0 a0).bind fun bt101 => ((bits_Mul64.f bt101.2 a0).bind fun bt103 => (if (IntKind.u64.wrap ((IntKind.u64.wrap (bt101.1 * a0)) + bt103.1)) < (IntKind.u64.wrap (a1 * 4294967296)) then (some true) else (if (IntKind.u64.wrap ((IntKind.u64.wrap (bt101.1 * a0)) + bt103.1)) = (IntKind.u64.wrap (a1 * 4294967296)) then (some (bt103.2 == 0)) else (some false))))) = some r := h
  clear h
  replace H := Option.bind_eq_some_iff.mp H
  obtain ⟨⟨t101, t102⟩, A30, H⟩ := H
  replace H : ((bits_Mul64.f t102 a0).bind fun bt103 => (if (IntKind.u64.wrap ((IntKind.u64.wrap (t101 * a0)) + bt103.1)) < (IntKind.u64.wrap (a1 * 4294967296)) then (some true) else (if (IntKind.u64.wrap ((IntKind.u64.wrap (t101 * a0)) + bt103.1)) = (IntKind.u64.wrap (a1 * 4294967296)) then (some (bt103.2 == 0)) else (some false)))) = some r := H
  have A3 := Aside0.mk A30
  clear A30
  replace H := Option.bind_eq_some_iff.mp H
  obtain ⟨⟨t103, t104⟩, A40, H⟩ := H
  replace H : (if (IntKind.u64.wrap ((IntKind.u64.wrap (t101 * a0)) + t103)) < (IntKind.u64.wrap (a1 * 4294967296)) then (some true) else (if (IntKind.u64.wrap ((IntKind.u64.wrap (t101 * a0)) + t103)) = (IntKind.u64.wrap (a1 * 4294967296)) then (some (t104 == 0)) else (some false))) = some r := H
  have A4 := Aside0.mk A40
  clear A40
  by_cases c5 : (IntKind.u64.wrap ((IntKind.u64.wrap (t101 * a0)) + t103)) < (IntKind.u64.wrap (a1 * 4294967296))
  · rw [if_pos c5] at H
    have c5b0 : decide ((IntKind.u64.wrap ((IntKind.u64.wrap (t101 * a0)) + t103)) < (IntKind.u64.wrap (a1 * 4294967296))) = true := decide_eq_true c5
    clear c5
    obtain rfl := Option.some.inj H
    go_enter Tryd.func81, Tryd.ntmps81
    go_wp2_with (first | ((with_reducible refine gate_callee (f := 87) rfl ?_); refine goesL_ (some 13) rfl rfl Tryd.func87 (by kernel_rfl) rfl #[.int .u64 a0, .int .u64 a0] rfl (by (try simp only [List.map_toArray, List.map_cons, List.map_nil]); first | done | rfl | (simp only [List.length_drop, List.length_take]; rfl)) ?_; (with_reducible refine (bits_Mul64.calls a0 a0 t101 t102 _ A3.out).mono ?_); rintro e w' ⟨rfl, ⟨nd, rfl⟩⟩; refine ⟨_, rfl, ?_⟩) | ((with_reducible refine gate_callee (f := 87) rfl ?_); refine goesL_ (some 19) rfl rfl Tryd.func87 (by kernel_rfl) rfl #[.int .u64 t102, .int .u64 a0] rfl (by (try simp only [List.map_toArray, List.map_cons, List.map_nil]); first | done | rfl | (simp only [List.length_drop, List.length_take]; rfl)) ?_; (with_reducible refine (bits_Mul64.calls t102 a0 t103 t104 _ A4.out).mono ?_); rintro e w' ⟨rfl, ⟨nd, rfl⟩⟩; refine ⟨_, rfl, ?_⟩))
    go_ret
    exact ⟨by first | rfl | (simp; done) | (simp [*]; done), by repeat (first | exact Drawn0.refl _ | apply Drawn0.step)⟩
  · rw [if_neg c5] at H
    have c5b0 : decide ((IntKind.u64.wrap ((IntKind.u64.wrap (t101 * a0)) + t103)) < (IntKind.u64.wrap (a1 * 4294967296))) = false := decide_eq_false c5
    clear c5
    by_cases c6 : (IntKind.u64.wrap ((IntKind.u64.wrap (t101 * a0)) + t103)) = (IntKind.u64.wrap (a1 * 4294967296))
    · rw [if_pos c6] at H
      have c6b0 : ((IntKind.u64.wrap ((IntKind.u64.wrap (t101 * a0)) + t103)) == (IntKind.u64.wrap (a1 * 4294967296))) = true := beq_iff_eq.mpr c6
      have c6b1 : ((IntKind.u64.wrap ((IntKind.u64.wrap (t101 * a0)) + t103)) != (IntKind.u64.wrap (a1 * 4294967296))) = false := bne_eq_false_iff_eq.mpr c6
      clear c6
      obtain rfl := Option.some.inj H
      go_enter Tryd.func81, Tryd.ntmps81
      go_wp2_with (first | ((with_reducible refine gate_callee (f := 87) rfl ?_); refine goesL_ (some 13) rfl rfl Tryd.func87 (by kernel_rfl) rfl #[.int .u64 a0, .int .u64 a0] rfl (by (try simp only [List.map_toArray, List.map_cons, List.map_nil]); first | done | rfl | (simp only [List.length_drop, List.length_take]; rfl)) ?_; (with_reducible refine (bits_Mul64.calls a0 a0 t101 t102 _ A3.out).mono ?_); rintro e w' ⟨rfl, ⟨nd, rfl⟩⟩; refine ⟨_, rfl, ?_⟩) | ((with_reducible refine gate_callee (f := 87) rfl ?_); refine goesL_ (some 19) rfl rfl Tryd.func87 (by kernel_rfl) rfl #[.int .u64 t102, .int .u64 a0] rfl (by (try simp only [List.map_toArray, List.map_cons, List.map_nil]); first | done | rfl | (simp only [List.length_drop, List.length_take]; rfl)) ?_; (with_reducible refine (bits_Mul64.calls t102 a0 t103 t104 _ A4.out).mono ?_); rintro e w' ⟨rfl, ⟨nd, rfl⟩⟩; refine ⟨_, rfl, ?_⟩))
      go_ret
      exact ⟨by first | rfl | (simp; done) | (simp [*]; done), by repeat (first | exact Drawn0.refl _ | apply Drawn0.step)⟩
    · rw [if_neg c6] at H
      have c6b0 : ((IntKind.u64.wrap ((IntKind.u64.wrap (t101 * a0)) + t103)) == (IntKind.u64.wrap (a1 * 4294967296))) = false := beq_eq_false_iff_ne.mpr c6
      have c6b1 : ((IntKind.u64.wrap ((IntKind.u64.wrap (t101 * a0)) + t103)) != (IntKind.u64.wrap (a1 * 4294967296))) = true := bne_iff_ne.mpr c6
      obtain rfl := Option.some.inj H
      go_enter Tryd.func81, Tryd.ntmps81
      go_wp2_with (first | ((with_reducible refine gate_callee (f := 87) rfl ?_); refine goesL_ (some 13) rfl rfl Tryd.func87 (by kernel_rfl) rfl #[.int .u64 a0, .int .u64 a0] rfl (by (try simp only [List.map_toArray, List.map_cons, List.map_nil]); first | done | rfl | (simp only [List.length_drop, List.length_take]; rfl)) ?_; (with_reducible refine (bits_Mul64.calls a0 a0 t101 t102 _ A3.out).mono ?_); rintro e w' ⟨rfl, ⟨nd, rfl⟩⟩; refine ⟨_, rfl, ?_⟩) | ((with_reducible refine gate_callee (f := 87) rfl ?_); refine goesL_ (some 19) rfl rfl Tryd.func87 (by kernel_rfl) rfl #[.int .u64 t102, .int .u64 a0] rfl (by (try simp only [List.map_toArray, List.map_cons, List.map_nil]); first | done | rfl | (simp only [List.length_drop, List.length_take]; rfl)) ?_; (with_reducible refine (bits_Mul64.calls t102 a0 t103 t104 _ A4.out).mono ?_); rintro e w' ⟨rfl, ⟨nd, rfl⟩⟩; refine ⟨_, rfl, ?_⟩))
      go_ret
      exact ⟨by first | rfl | (simp; done) | (simp [*]; done), by repeat (first | exact Drawn0.refl _ | apply Drawn0.step)⟩

/-! ### sum_cube: function 69 -/
def sum_cube.l0 : Nat → Int → Int → Int → Option (Int)
  | 0, _, _, _ => none
  | k + 1, x0, x3, x4 => if x4 > 0 then ((sum_below.f (Go.bits .or .u64 x3 x4) x0).bind fun t105 => (if t105 = true then (sum_cube.l0 k x0 (Go.bits .or .u64 x3 x4) (x4 / 2)) else (sum_cube.l0 k x0 x3 (x4 / 2)))) else (some ((x3) % 4294967296))
def sum_cube.f (k : Nat) (a0 : Int) : Option (Int) := sum_cube.l0 k a0 0 34359738368
theorem sum_cube.mono_l : ∀ k, (∀ y0 y1 y2, LeO (sum_cube.l0 k y0 y1 y2) (sum_cube.l0 (k + 1) y0 y1 y2))
  | 0 => fun _ _ _ r h => by simp [sum_cube.l0] at h
  | k + 1 => by
    have ih0 := sum_cube.mono_l k
    · intro y0 y1 y2
      unfold sum_cube.l0
      repeat' first
      | (with_reducible exact ih0 _ _ _)
      | (with_reducible exact LeO.refl _)
      | (with_reducible exact LeO.none _)
      | (with_reducible refine LeO.ite ?_ ?_)
      | (with_reducible refine LeO.bind ?_ (fun _ => ?_))
      | exact ih0 _ _ _
      | exact LeO.none _
      | refine LeO.ite ?_ ?_
      | refine LeO.bind ?_ (fun _ => ?_)
theorem sum_cube.mono : ∀ a0 k, LeO (sum_cube.f k a0) (sum_cube.f (k + 1) a0) := by
  intro a0 k
  have ih0 := sum_cube.mono_l k
  unfold sum_cube.f
  repeat' first
      | (with_reducible exact ih0 _ _ _)
      | (with_reducible exact LeO.refl _)
      | (with_reducible exact LeO.none _)
      | (with_reducible refine LeO.ite ?_ ?_)
      | (with_reducible refine LeO.bind ?_ (fun _ => ?_))
      | exact ih0 _ _ _
      | exact LeO.none _
      | refine LeO.ite ?_ ?_
      | refine LeO.bind ?_ (fun _ => ?_)
set_option maxHeartbeats 8000000 in
set_option maxRecDepth 100000 in
theorem sum_cube.calls (k : Nat) (a0 : Int) (r : Int) (w : World) (h : sum_cube.f k a0 = some r) :
    Calls Tryd.prog 69 #[.int .u64 a0] w fun e w' => e = .returned (.int .u32 r) ∧ Drawn0 w w' := by
  have H : (sum_cube.l0 k a0 0 34359738368) = some r := h
  clear h
  have H' := Aside0.mk H
  clear H
  go_enter Tryd.func69, Tryd.ntmps69
  go_wp2
  go_loopg [3, 4] k (fun kq v3 v4 w' => ∃ (x3_1 : Int) (x4_1 : Int), v3 = .int .u64 x3_1 ∧ v4 = .int .u64 x4_1 ∧ Aside0 (sum_cube.l0 kq a0 x3_1 x4_1 = some r) ∧ Aside0 (kq ≤ k) ∧ Drawn0 w w')
  case atStart => exact ⟨(0), (34359738368), (by first | rfl | (simp; done) | (simp [*]; done)), (by first | rfl | (simp; done) | (simp [*]; done)), H', ⟨Nat.le_refl _⟩, by repeat (first | exact Drawn0.refl _ | apply Drawn0.step)⟩
  case round =>
    clear H'
    obtain ⟨x3_1, x4_1, rfl, rfl, HA, HK1, ⟨m1, rfl⟩⟩ := hrel
    cases gk with
    | zero => exact absurd HA.out (by simp [sum_cube.l0])
    | succ k1 =>
      have H := HA.out
      clear HA
      simp only [sum_cube.l0] at H
      by_cases c2 : x4_1 > 0
      · rw [if_pos c2] at H
        have c2b0 : decide (0 < x4_1) = true := decide_eq_true c2
        clear c2
        replace H := Option.bind_eq_some_iff.mp H
        obtain ⟨t105, A30, H⟩ := H
        replace H : (if t105 = true then (sum_cube.l0 k1 a0 (Go.bits .or .u64 x3_1 x4_1) (x4_1 / 2)) else (sum_cube.l0 k1 a0 x3_1 (x4_1 / 2))) = some r := H
        have A3 := Aside0.mk A30
        clear A30
        by_cases c4 : t105 = true
        · subst c4
          have H1 : (sum_cube.l0 k1 a0 (Go.bits .or .u64 x3_1 x4_1) (x4_1 / 2)) = some r := by rw [if_pos rfl] at H; exact H
          clear H
          have H := H1
          clear H1
          have H' := Aside0.mk H
          clear H
          go_wp2_with (first | ((with_reducible refine gate_callee (f := 81) rfl ?_); refine goesL_ (some 13) rfl rfl Tryd.func81 (by kernel_rfl) rfl #[.int .u64 (Go.bits .or .u64 x3_1 x4_1), .int .u64 a0] rfl (by (try simp only [List.map_toArray, List.map_cons, List.map_nil]); first | done | rfl | (simp only [List.length_drop, List.length_take]; rfl)) ?_; (with_reducible refine (sum_below.calls (Go.bits .or .u64 x3_1 x4_1) a0 true _ A3.out).mono ?_); rintro e w' ⟨rfl, ⟨nd, rfl⟩⟩; refine ⟨_, rfl, ?_⟩))
          go_roundg k1
          case measure => have := HK1.out; omega
          case rel => exact ⟨(Go.bits .or .u64 x3_1 x4_1), (x4_1 / 2), (by first | rfl | (simp; done) | (simp [*]; done)), (by first | rfl | (simp; done) | (simp [*]; done)), H', ⟨by have := HK1.out; omega⟩, by repeat (first | exact Drawn0.refl _ | apply Drawn0.step)⟩
        · replace c4 := Bool.eq_false_iff.mpr c4
          subst c4
          have H1 : (sum_cube.l0 k1 a0 x3_1 (x4_1 / 2)) = some r := by rw [if_neg (show ¬ (false = true) by decide)] at H; exact H
          clear H
          have H := H1
          clear H1
          have H' := Aside0.mk H
          clear H
          go_wp2_with (first | ((with_reducible refine gate_callee (f := 81) rfl ?_); refine goesL_ (some 13) rfl rfl Tryd.func81 (by kernel_rfl) rfl #[.int .u64 (Go.bits .or .u64 x3_1 x4_1), .int .u64 a0] rfl (by (try simp only [List.map_toArray, List.map_cons, List.map_nil]); first | done | rfl | (simp only [List.length_drop, List.length_take]; rfl)) ?_; (with_reducible refine (sum_below.calls (Go.bits .or .u64 x3_1 x4_1) a0 false _ A3.out).mono ?_); rintro e w' ⟨rfl, ⟨nd, rfl⟩⟩; refine ⟨_, rfl, ?_⟩))
          go_roundg k1
          case measure => have := HK1.out; omega
          case rel => exact ⟨(x3_1), (x4_1 / 2), (by first | rfl | (simp; done) | (simp [*]; done)), (by first | rfl | (simp; done) | (simp [*]; done)), H', ⟨by have := HK1.out; omega⟩, by repeat (first | exact Drawn0.refl _ | apply Drawn0.step)⟩
      · rw [if_neg c2] at H
        have c2b0 : decide (0 < x4_1) = false := decide_eq_false c2
        clear c2
        obtain rfl := Option.some.inj H
        go_wp2
        go_ret
        exact ⟨by first | rfl | (simp; done) | (simp [*]; done), by repeat (first | exact Drawn0.refl _ | apply Drawn0.step)⟩

/-! ### bits_RotateLeft32: function 82 -/
def bits_RotateLeft32.f (a0 : Int) (a1 : Int) : Option (Int) := if 0 ≤ (Go.bits .and .u64 (IntKind.u64.wrap (a1)) 31) then (if 0 ≤ (IntKind.u64.wrap (32 - (Go.bits .and .u64 (IntKind.u64.wrap (a1)) 31))) then (some (Go.bits .or .u32 (shl .u32 a0 (Go.bits .and .u64 (IntKind.u64.wrap (a1)) 31)) (shr .u32 a0 (IntKind.u64.wrap (32 - (Go.bits .and .u64 (IntKind.u64.wrap (a1)) 31)))))) else (none)) else (none)
set_option maxHeartbeats 8000000 in
set_option maxRecDepth 100000 in
theorem bits_RotateLeft32.calls (a0 : Int) (a1 : Int) (r : Int) (w : World) (h : bits_RotateLeft32.f a0 a1 = some r) :
    Calls Tryd.prog 82 #[.int .u32 a0, .int .i64 a1] w fun e w' => e = .returned (.int .u32 r) ∧ Drawn0 w w' := by
  have H : (if 0 ≤ (Go.bits .and .u64 (IntKind.u64.wrap (a1)) 31) then (if 0 ≤ (IntKind.u64.wrap (32 - (Go.bits .and .u64 (IntKind.u64.wrap (a1)) 31))) then (some (Go.bits .or .u32 (shl .u32 a0 (Go.bits .and .u64 (IntKind.u64.wrap (a1)) 31)) (shr .u32 a0 (IntKind.u64.wrap (32 - (Go.bits .and .u64 (IntKind.u64.wrap (a1)) 31)))))) else (none)) else (none)) = some r := h
  clear h
  obtain ⟨ji3, hji3⟩ : ∃ j_ : Int, (Go.bits .and .u64 (IntKind.u64.wrap (a1)) 31) = j_ := ⟨_, rfl⟩
  replace H : (if 0 ≤ (ji3) then (if 0 ≤ (IntKind.u64.wrap (32 - (ji3))) then (some (Go.bits .or .u32 (shl .u32 a0 (ji3)) (shr .u32 a0 (IntKind.u64.wrap (32 - (ji3)))))) else (none)) else (none)) = some r := by first | (rw [hji3] at H; exact H) | (simp only [hji3] at H ⊢; exact H)
  by_cases c4 : 0 ≤ (ji3)
  · rw [if_pos c4] at H
    have c4b0 := eq_true c4
    have c4b1 : decide (0 ≤ (ji3)) = true := decide_eq_true c4
    clear c4
    obtain ⟨ji5, hji5⟩ : ∃ j_ : Int, (shl .u32 a0 (ji3)) = j_ := ⟨_, rfl⟩
    replace H : (if 0 ≤ (IntKind.u64.wrap (32 - (ji3))) then (some (Go.bits .or .u32 (ji5) (shr .u32 a0 (IntKind.u64.wrap (32 - (ji3)))))) else (none)) = some r := by first | (rw [hji5] at H; exact H) | (simp only [hji5] at H ⊢; exact H)
    have hji5_ : (IntKind.u32.wrap (a0 * 2 ^ min (ji3).toNat 32)) = ji5 := hji5
    have hji5z : (ji3) ≤ 32 → (IntKind.u32.wrap (a0 * 2 ^ (ji3).toNat)) = ji5 := shl_small hji5
    obtain ⟨ji6, hji6⟩ : ∃ j_ : Int, (IntKind.u64.wrap (32 - (ji3))) = j_ := ⟨_, rfl⟩
    replace H : (if 0 ≤ (ji6) then (some (Go.bits .or .u32 (ji5) (shr .u32 a0 (ji6)))) else (none)) = some r := by first | (rw [hji6] at H; exact H) | (simp only [hji6] at H ⊢; exact H)
    by_cases c7 : 0 ≤ (ji6)
    · rw [if_pos c7] at H
      have c7b0 := eq_true c7
      have c7b1 : decide (0 ≤ (ji6)) = true := decide_eq_true c7
      clear c7
      obtain ⟨ji8, hji8⟩ : ∃ j_ : Int, (shr .u32 a0 (ji6)) = j_ := ⟨_, rfl⟩
      replace H : (some (Go.bits .or .u32 (ji5) (ji8))) = some r := by first | (rw [hji8] at H; exact H) | (simp only [hji8] at H ⊢; exact H)
      have hji8_ : (a0 / 2 ^ min (ji6).toNat 32) = ji8 := hji8
      have hji8z : (ji6) ≤ 32 → (a0 / 2 ^ (ji6).toNat) = ji8 := shr_small hji8
      obtain rfl := Option.some.inj H
      go_enter Tryd.func82, Tryd.ntmps82
      go_wp2
      go_ret
      exact ⟨by first | rfl | (simp; done) | (simp only [← hji3, ← hji5, ← hji6, ← hji8] <;> (first | rfl | simp)) | (simp [*]; done), by repeat (first | exact Drawn0.refl _ | apply Drawn0.step)⟩
    · rw [if_neg c7] at H
      exact absurd H (by simp)
  · rw [if_neg c4] at H
    exact absurd H (by simp)

/-! ### sum_right: function 71 -/
def sum_right.f (a0 : Int) (a1 : Int) : Option (Int) := (bits_RotateLeft32.f a0 (wrap64 (-a1))).bind fun t106 => (some t106)
set_option maxHeartbeats 8000000 in
set_option maxRecDepth 100000 in
theorem sum_right.calls (a0 : Int) (a1 : Int) (r : Int) (w : World) (h : sum_right.f a0 a1 = some r) :
    Calls Tryd.prog 71 #[.int .u32 a0, .int .i64 a1] w fun e w' => e = .returned (.int .u32 r) ∧ Drawn0 w w' := by
  have H : ((bits_RotateLeft32.f a0 (wrap64 (-a1))).bind fun t106 => (some t106)) = some r := h
  clear h
  replace H := Option.bind_eq_some_iff.mp H
  obtain ⟨t106, A30, H⟩ := H
  replace H : (some t106) = some r := H
  have A3 := Aside0.mk A30
  clear A30
  obtain rfl := Option.some.inj H
  go_enter Tryd.func71, Tryd.ntmps71
  go_wp2_with (first | ((with_reducible refine gate_callee (f := 82) rfl ?_); refine goesL_ (some 8) rfl rfl Tryd.func82 (by kernel_rfl) rfl #[.int .u32 a0, .int .i64 (wrap64 (-a1))] rfl (by (try simp only [List.map_toArray, List.map_cons, List.map_nil]); first | done | rfl | (simp only [List.length_drop, List.length_take]; rfl)) ?_; (with_reducible refine (bits_RotateLeft32.calls a0 (wrap64 (-a1)) t106 _ A3.out).mono ?_); rintro e w' ⟨rfl, ⟨nd, rfl⟩⟩; refine ⟨_, rfl, ?_⟩))
  go_ret
  exact ⟨by first | rfl | (simp; done) | (simp [*]; done), by repeat (first | exact Drawn0.refl _ | apply Drawn0.step)⟩

/-! ### sum_state_round: function 72 -/
def sum_state_round.f (a0_0 : Int) (a0_1 : Int) (a0_2 : Int) (a0_3 : Int) (a0_4 : Int) (a0_5 : Int) (a0_6 : Int) (a0_7 : Int) (a1 : Int) : Option (Int × Int × Int × Int × Int × Int × Int × Int) := (sum_right.f a0_4 6).bind fun t109 => ((sum_right.f a0_4 11).bind fun t110 => ((sum_right.f a0_4 25).bind fun t111 => ((sum_right.f a0_0 2).bind fun t112 => ((sum_right.f a0_0 13).bind fun t113 => ((sum_right.f a0_0 22).bind fun t114 => (some (((((a0_7 + (Go.bits .xor .u32 (Go.bits .xor .u32 t109 t110) t111)) + (Go.bits .xor .u32 a0_6 (Go.bits .and .u32 a0_4 (Go.bits .xor .u32 a0_5 a0_6)))) + a1) + ((Go.bits .xor .u32 (Go.bits .xor .u32 t112 t113) t114) + (Go.bits .or .u32 (Go.bits .and .u32 a0_0 a0_1) (Go.bits .and .u32 a0_2 (Go.bits .or .u32 a0_0 a0_1))))) % 4294967296, a0_0, a0_1, a0_2, (a0_3 + (((a0_7 + (Go.bits .xor .u32 (Go.bits .xor .u32 t109 t110) t111)) + (Go.bits .xor .u32 a0_6 (Go.bits .and .u32 a0_4 (Go.bits .xor .u32 a0_5 a0_6)))) + a1)) % 4294967296, a0_4, a0_5, a0_6)))))))
set_option maxHeartbeats 8000000 in
set_option maxRecDepth 100000 in
theorem sum_state_round.calls (a0_0 : Int) (a0_1 : Int) (a0_2 : Int) (a0_3 : Int) (a0_4 : Int) (a0_5 : Int) (a0_6 : Int) (a0_7 : Int) (a1 : Int) (r1 : Int) (r2 : Int) (r3 : Int) (r4 : Int) (r5 : Int) (r6 : Int) (r7 : Int) (r8 : Int) (w : World) (h : sum_state_round.f a0_0 a0_1 a0_2 a0_3 a0_4 a0_5 a0_6 a0_7 a1 = some (r1, r2, r3, r4, r5, r6, r7, r8)) :
    Calls Tryd.prog 72 #[.agg #[.int .u32 a0_0, .int .u32 a0_1, .int .u32 a0_2, .int .u32 a0_3, .int .u32 a0_4, .int .u32 a0_5, .int .u32 a0_6, .int .u32 a0_7], .int .u32 a1] w fun e w' => e = .returned (.agg #[.int .u32 r1, .int .u32 r2, .int .u32 r3, .int .u32 r4, .int .u32 r5, .int .u32 r6, .int .u32 r7, .int .u32 r8]) ∧ Below w.heap.size w w' := by
  have hu96 := Tryd.underlying96
  have HB := Aside0.mk (Below.refl w.heap.size w)
  have H : ((sum_right.f a0_4 6).bind fun t109 => ((sum_right.f a0_4 11).bind fun t110 => ((sum_right.f a0_4 25).bind fun t111 => ((sum_right.f a0_0 2).bind fun t112 => ((sum_right.f a0_0 13).bind fun t113 => ((sum_right.f a0_0 22).bind fun t114 => (some (((((a0_7 + (Go.bits .xor .u32 (Go.bits .xor .u32 t109 t110) t111)) + (Go.bits .xor .u32 a0_6 (Go.bits .and .u32 a0_4 (Go.bits .xor .u32 a0_5 a0_6)))) + a1) + ((Go.bits .xor .u32 (Go.bits .xor .u32 t112 t113) t114) + (Go.bits .or .u32 (Go.bits .and .u32 a0_0 a0_1) (Go.bits .and .u32 a0_2 (Go.bits .or .u32 a0_0 a0_1))))) % 4294967296, a0_0, a0_1, a0_2, (a0_3 + (((a0_7 + (Go.bits .xor .u32 (Go.bits .xor .u32 t109 t110) t111)) + (Go.bits .xor .u32 a0_6 (Go.bits .and .u32 a0_4 (Go.bits .xor .u32 a0_5 a0_6)))) + a1)) % 4294967296, a0_4, a0_5, a0_6)))))))) = some (r1, r2, r3, r4, r5, r6, r7, r8) := h
  clear h
  replace H := Option.bind_eq_some_iff.mp H
  obtain ⟨t109, A30, H⟩ := H
  replace H : ((sum_right.f a0_4 11).bind fun t110 => ((sum_right.f a0_4 25).bind fun t111 => ((sum_right.f a0_0 2).bind fun t112 => ((sum_right.f a0_0 13).bind fun t113 => ((sum_right.f a0_0 22).bind fun t114 => (some (((((a0_7 + (Go.bits .xor .u32 (Go.bits .xor .u32 t109 t110) t111)) + (Go.bits .xor .u32 a0_6 (Go.bits .and .u32 a0_4 (Go.bits .xor .u32 a0_5 a0_6)))) + a1) + ((Go.bits .xor .u32 (Go.bits .xor .u32 t112 t113) t114) + (Go.bits .or .u32 (Go.bits .and .u32 a0_0 a0_1) (Go.bits .and .u32 a0_2 (Go.bits .or .u32 a0_0 a0_1))))) % 4294967296, a0_0, a0_1, a0_2, (a0_3 + (((a0_7 + (Go.bits .xor .u32 (Go.bits .xor .u32 t109 t110) t111)) + (Go.bits .xor .u32 a0_6 (Go.bits .and .u32 a0_4 (Go.bits .xor .u32 a0_5 a0_6)))) + a1)) % 4294967296, a0_4, a0_5, a0_6))))))) = some (r1, r2, r3, r4, r5, r6, r7, r8) := H
  have A3 := Aside0.mk A30
  clear A30
  replace H := Option.bind_eq_some_iff.mp H
  obtain ⟨t110, A40, H⟩ := H
  replace H : ((sum_right.f a0_4 25).bind fun t111 => ((sum_right.f a0_0 2).bind fun t112 => ((sum_right.f a0_0 13).bind fun t113 => ((sum_right.f a0_0 22).bind fun t114 => (some (((((a0_7 + (Go.bits .xor .u32 (Go.bits .xor .u32 t109 t110) t111)) + (Go.bits .xor .u32 a0_6 (Go.bits .and .u32 a0_4 (Go.bits .xor .u32 a0_5 a0_6)))) + a1) + ((Go.bits .xor .u32 (Go.bits .xor .u32 t112 t113) t114) + (Go.bits .or .u32 (Go.bits .and .u32 a0_0 a0_1) (Go.bits .and .u32 a0_2 (Go.bits .or .u32 a0_0 a0_1))))) % 4294967296, a0_0, a0_1, a0_2, (a0_3 + (((a0_7 + (Go.bits .xor .u32 (Go.bits .xor .u32 t109 t110) t111)) + (Go.bits .xor .u32 a0_6 (Go.bits .and .u32 a0_4 (Go.bits .xor .u32 a0_5 a0_6)))) + a1)) % 4294967296, a0_4, a0_5, a0_6)))))) = some (r1, r2, r3, r4, r5, r6, r7, r8) := H
  have A4 := Aside0.mk A40
  clear A40
  replace H := Option.bind_eq_some_iff.mp H
  obtain ⟨t111, A50, H⟩ := H
  replace H : ((sum_right.f a0_0 2).bind fun t112 => ((sum_right.f a0_0 13).bind fun t113 => ((sum_right.f a0_0 22).bind fun t114 => (some (((((a0_7 + (Go.bits .xor .u32 (Go.bits .xor .u32 t109 t110) t111)) + (Go.bits .xor .u32 a0_6 (Go.bits .and .u32 a0_4 (Go.bits .xor .u32 a0_5 a0_6)))) + a1) + ((Go.bits .xor .u32 (Go.bits .xor .u32 t112 t113) t114) + (Go.bits .or .u32 (Go.bits .and .u32 a0_0 a0_1) (Go.bits .and .u32 a0_2 (Go.bits .or .u32 a0_0 a0_1))))) % 4294967296, a0_0, a0_1, a0_2, (a0_3 + (((a0_7 + (Go.bits .xor .u32 (Go.bits .xor .u32 t109 t110) t111)) + (Go.bits .xor .u32 a0_6 (Go.bits .and .u32 a0_4 (Go.bits .xor .u32 a0_5 a0_6)))) + a1)) % 4294967296, a0_4, a0_5, a0_6))))) = some (r1, r2, r3, r4, r5, r6, r7, r8) := H
  have A5 := Aside0.mk A50
  clear A50
  replace H := Option.bind_eq_some_iff.mp H
  obtain ⟨t112, A60, H⟩ := H
  replace H : ((sum_right.f a0_0 13).bind fun t113 => ((sum_right.f a0_0 22).bind fun t114 => (some (((((a0_7 + (Go.bits .xor .u32 (Go.bits .xor .u32 t109 t110) t111)) + (Go.bits .xor .u32 a0_6 (Go.bits .and .u32 a0_4 (Go.bits .xor .u32 a0_5 a0_6)))) + a1) + ((Go.bits .xor .u32 (Go.bits .xor .u32 t112 t113) t114) + (Go.bits .or .u32 (Go.bits .and .u32 a0_0 a0_1) (Go.bits .and .u32 a0_2 (Go.bits .or .u32 a0_0 a0_1))))) % 4294967296, a0_0, a0_1, a0_2, (a0_3 + (((a0_7 + (Go.bits .xor .u32 (Go.bits .xor .u32 t109 t110) t111)) + (Go.bits .xor .u32 a0_6 (Go.bits .and .u32 a0_4 (Go.bits .xor .u32 a0_5 a0_6)))) + a1)) % 4294967296, a0_4, a0_5, a0_6)))) = some (r1, r2, r3, r4, r5, r6, r7, r8) := H
  have A6 := Aside0.mk A60
  clear A60
  replace H := Option.bind_eq_some_iff.mp H
  obtain ⟨t113, A70, H⟩ := H
  replace H : ((sum_right.f a0_0 22).bind fun t114 => (some (((((a0_7 + (Go.bits .xor .u32 (Go.bits .xor .u32 t109 t110) t111)) + (Go.bits .xor .u32 a0_6 (Go.bits .and .u32 a0_4 (Go.bits .xor .u32 a0_5 a0_6)))) + a1) + ((Go.bits .xor .u32 (Go.bits .xor .u32 t112 t113) t114) + (Go.bits .or .u32 (Go.bits .and .u32 a0_0 a0_1) (Go.bits .and .u32 a0_2 (Go.bits .or .u32 a0_0 a0_1))))) % 4294967296, a0_0, a0_1, a0_2, (a0_3 + (((a0_7 + (Go.bits .xor .u32 (Go.bits .xor .u32 t109 t110) t111)) + (Go.bits .xor .u32 a0_6 (Go.bits .and .u32 a0_4 (Go.bits .xor .u32 a0_5 a0_6)))) + a1)) % 4294967296, a0_4, a0_5, a0_6))) = some (r1, r2, r3, r4, r5, r6, r7, r8) := H
  have A7 := Aside0.mk A70
  clear A70
  replace H := Option.bind_eq_some_iff.mp H
  obtain ⟨t114, A80, H⟩ := H
  replace H : (some (((((a0_7 + (Go.bits .xor .u32 (Go.bits .xor .u32 t109 t110) t111)) + (Go.bits .xor .u32 a0_6 (Go.bits .and .u32 a0_4 (Go.bits .xor .u32 a0_5 a0_6)))) + a1) + ((Go.bits .xor .u32 (Go.bits .xor .u32 t112 t113) t114) + (Go.bits .or .u32 (Go.bits .and .u32 a0_0 a0_1) (Go.bits .and .u32 a0_2 (Go.bits .or .u32 a0_0 a0_1))))) % 4294967296, a0_0, a0_1, a0_2, (a0_3 + (((a0_7 + (Go.bits .xor .u32 (Go.bits .xor .u32 t109 t110) t111)) + (Go.bits .xor .u32 a0_6 (Go.bits .and .u32 a0_4 (Go.bits .xor .u32 a0_5 a0_6)))) + a1)) % 4294967296, a0_4, a0_5, a0_6)) = some (r1, r2, r3, r4, r5, r6, r7, r8) := H
  have A8 := Aside0.mk A80
  clear A80
  simp only [Option.some.injEq, Prod.mk.injEq] at H
  obtain ⟨rfl, rfl, rfl, rfl, rfl, rfl, rfl, rfl⟩ := H
  go_enter Tryd.func72, Tryd.ntmps72
  go_wp2_with (first | ((with_reducible refine gate_dst (N := 2) rfl ?_); refine box_event ?hg (N := 2) ?hd (cs := #[.int .u32 a0_0, .int .u32 a0_1, .int .u32 a0_2, .int .u32 a0_3, .int .u32 a0_4, .int .u32 a0_5, .int .u32 a0_6, .int .u32 a0_7]) (t := 96) ?hr ?_; (case hd => rfl); (case hg => rfl); (case hr => first | (go_simp; done) | (go_simp; rfl)); intro gb107 hg w9 hbox hb; have n0_ := Aside0.mk (below_step (by repeat (first | (with_reducible first | exact HB.out | apply below_alloc | apply pw_below_drewN | apply below_drew1) | exact HB.out)) hb); have n1_ := Aside0.mk (hbox); have n2_ := Aside0.mk ((by rw [hg]; exact (below_size (by repeat (first | (with_reducible first | exact HB.out | apply below_alloc | apply pw_below_drewN | apply below_drew1) | exact HB.out))) : w.heap.size ≤ gb107)); have n3_ := Aside0.mk ((by rw [hg]; exact (below_size (by repeat (first | (with_reducible first | exact HB.out | apply below_alloc | apply pw_below_drewN | apply below_drew1) | exact HB.out))) : w.heap.size ≤ gb107)); clear HB; have HB := n0_; have BK107 := n1_; have GW107 := n2_; have GE107 := n3_; clear n0_ n1_ n2_ n3_; clear hb hbox hg) | ((with_reducible refine gate_dst (N := 4) rfl ?_); refine box_event ?hg (N := 4) ?hd (cs := #[.int .u32 0, .int .u32 0, .int .u32 0, .int .u32 0, .int .u32 0, .int .u32 0, .int .u32 0, .int .u32 0]) (t := 96) ?hr ?_; (case hd => rfl); (case hg => rfl); (case hr => first | (go_simp; done) | (go_simp; rfl)); intro gb108 hg w10 hbox hb; have n0_ := Aside0.mk (blk_below (g := gb107) (o := .cells #[.int .u32 a0_0, .int .u32 a0_1, .int .u32 a0_2, .int .u32 a0_3, .int .u32 a0_4, .int .u32 a0_5, .int .u32 a0_6, .int .u32 a0_7] 96 (0, 0)) (by (with_reducible repeat (first | refine blk_drewN ?_ _ | refine blk_drew ?_ | refine blk_alloc ?_ _)); exact BK107.out) hb); have n1_ := Aside0.mk (below_step (by repeat (first | (with_reducible first | exact HB.out | apply below_alloc | apply pw_below_drewN | apply below_drew1 | refine below_set ?_ GE107.out) | exact HB.out)) hb); have n2_ := Aside0.mk (hbox); have n3_ := Aside0.mk ((by rw [hg]; exact (below_size (by repeat (first | (with_reducible first | exact HB.out | apply below_alloc | apply pw_below_drewN | apply below_drew1 | refine below_set ?_ GE107.out) | exact HB.out))) : w.heap.size ≤ gb108)); have n4_ := Aside0.mk ((by rw [hg]; exact (below_size (by repeat (first | (with_reducible first | exact HB.out | apply below_alloc | apply pw_below_drewN | apply below_drew1 | refine below_set ?_ GE107.out) | exact HB.out))) : w.heap.size ≤ gb108)); have n5_ := Aside0.mk ((by rw [hg]; exact Nat.ne_of_lt (blk_lt (g := gb107) (o := .cells #[.int .u32 a0_0, .int .u32 a0_1, .int .u32 a0_2, .int .u32 a0_3, .int .u32 a0_4, .int .u32 a0_5, .int .u32 a0_6, .int .u32 a0_7] 96 (0, 0)) (by (with_reducible repeat (first | refine blk_drewN ?_ _ | refine blk_drew ?_ | refine blk_alloc ?_ _)); exact BK107.out)) : gb107 ≠ gb108)); have n6_ := Aside0.mk ((by rw [hg]; exact Nat.ne_of_gt (blk_lt (g := gb107) (o := .cells #[.int .u32 a0_0, .int .u32 a0_1, .int .u32 a0_2, .int .u32 a0_3, .int .u32 a0_4, .int .u32 a0_5, .int .u32 a0_6, .int .u32 a0_7] 96 (0, 0)) (by (with_reducible repeat (first | refine blk_drewN ?_ _ | refine blk_drew ?_ | refine blk_alloc ?_ _)); exact BK107.out)) : gb108 ≠ gb107)); clear BK107; clear HB; have BK107 := n0_; have HB := n1_; have BK108 := n2_; have GW108 := n3_; have GE108 := n4_; have NB107_108 := n5_; have NB108_107 := n6_; clear n0_ n1_ n2_ n3_ n4_ n5_ n6_; clear hb hbox hg; have hnb11 := NB107_108.out; have hnc11 := NB108_107.out; have hcz12_0 : w10.cell? ⟨gb107, 0, none⟩ = some (.int .u32 a0_0) := (blk_cell BK107.out 0).trans rfl; have hcz12_1 : w10.cell? ⟨gb107, 1, none⟩ = some (.int .u32 a0_1) := (blk_cell BK107.out 1).trans rfl; have hcz12_2 : w10.cell? ⟨gb107, 2, none⟩ = some (.int .u32 a0_2) := (blk_cell BK107.out 2).trans rfl; have hcz12_3 : w10.cell? ⟨gb107, 3, none⟩ = some (.int .u32 a0_3) := (blk_cell BK107.out 3).trans rfl; have hcz12_4 : w10.cell? ⟨gb107, 4, none⟩ = some (.int .u32 a0_4) := (blk_cell BK107.out 4).trans rfl; have hcz12_5 : w10.cell? ⟨gb107, 5, none⟩ = some (.int .u32 a0_5) := (blk_cell BK107.out 5).trans rfl; have hcz12_6 : w10.cell? ⟨gb107, 6, none⟩ = some (.int .u32 a0_6) := (blk_cell BK107.out 6).trans rfl; have hcz12_7 : w10.cell? ⟨gb107, 7, none⟩ = some (.int .u32 a0_7) := (blk_cell BK107.out 7).trans rfl; have hfz12_0 := blk_frozen BK107.out 0; have hfz12_1 := blk_frozen BK107.out 1; have hfz12_2 := blk_frozen BK107.out 2; have hfz12_3 := blk_frozen BK107.out 3; have hfz12_4 := blk_frozen BK107.out 4; have hfz12_5 := blk_frozen BK107.out 5; have hfz12_6 := blk_frozen BK107.out 6; have hfz12_7 := blk_frozen BK107.out 7) | (go_at_call 71; (with_reducible refine (sum_right.calls a0_4 6 t109 _ A3.out).mono ?_); rintro e w' ⟨rfl, ⟨nd, rfl⟩⟩; (try first | exact ⟨rfl, _, World.drewN_drewN _ _ _⟩ | exact ⟨rfl, _, Eq.trans (World.drewN_drewN _ _ _) (congrArg (World.drewN _) (Nat.add_assoc _ _ _))⟩)) | (go_at_call 71; (with_reducible refine (sum_right.calls a0_4 11 t110 _ A4.out).mono ?_); rintro e w' ⟨rfl, ⟨nd, rfl⟩⟩; (try first | exact ⟨rfl, _, World.drewN_drewN _ _ _⟩ | exact ⟨rfl, _, Eq.trans (World.drewN_drewN _ _ _) (congrArg (World.drewN _) (Nat.add_assoc _ _ _))⟩)) | (go_at_call 71; (with_reducible refine (sum_right.calls a0_4 25 t111 _ A5.out).mono ?_); rintro e w' ⟨rfl, ⟨nd, rfl⟩⟩; (try first | exact ⟨rfl, _, World.drewN_drewN _ _ _⟩ | exact ⟨rfl, _, Eq.trans (World.drewN_drewN _ _ _) (congrArg (World.drewN _) (Nat.add_assoc _ _ _))⟩)) | (go_at_call 71; (with_reducible refine (sum_right.calls a0_0 2 t112 _ A6.out).mono ?_); rintro e w' ⟨rfl, ⟨nd, rfl⟩⟩; (try first | exact ⟨rfl, _, World.drewN_drewN _ _ _⟩ | exact ⟨rfl, _, Eq.trans (World.drewN_drewN _ _ _) (congrArg (World.drewN _) (Nat.add_assoc _ _ _))⟩)) | (go_at_call 71; (with_reducible refine (sum_right.calls a0_0 13 t113 _ A7.out).mono ?_); rintro e w' ⟨rfl, ⟨nd, rfl⟩⟩; (try first | exact ⟨rfl, _, World.drewN_drewN _ _ _⟩ | exact ⟨rfl, _, Eq.trans (World.drewN_drewN _ _ _) (congrArg (World.drewN _) (Nat.add_assoc _ _ _))⟩)) | (go_at_call 71; (with_reducible refine (sum_right.calls a0_0 22 t114 _ A8.out).mono ?_); rintro e w' ⟨rfl, ⟨nd, rfl⟩⟩; (try first | exact ⟨rfl, _, World.drewN_drewN _ _ _⟩ | exact ⟨rfl, _, Eq.trans (World.drewN_drewN _ _ _) (congrArg (World.drewN _) (Nat.add_assoc _ _ _))⟩); have hcz13_0 : w10.cell? ⟨gb108, 0, none⟩ = some (.int .u32 0) := (blk_cell BK108.out 0).trans rfl; have hcz13_1 : w10.cell? ⟨gb108, 1, none⟩ = some (.int .u32 0) := (blk_cell BK108.out 1).trans rfl; have hcz13_2 : w10.cell? ⟨gb108, 2, none⟩ = some (.int .u32 0) := (blk_cell BK108.out 2).trans rfl; have hcz13_3 : w10.cell? ⟨gb108, 3, none⟩ = some (.int .u32 0) := (blk_cell BK108.out 3).trans rfl; have hcz13_4 : w10.cell? ⟨gb108, 4, none⟩ = some (.int .u32 0) := (blk_cell BK108.out 4).trans rfl; have hcz13_5 : w10.cell? ⟨gb108, 5, none⟩ = some (.int .u32 0) := (blk_cell BK108.out 5).trans rfl; have hcz13_6 : w10.cell? ⟨gb108, 6, none⟩ = some (.int .u32 0) := (blk_cell BK108.out 6).trans rfl; have hcz13_7 : w10.cell? ⟨gb108, 7, none⟩ = some (.int .u32 0) := (blk_cell BK108.out 7).trans rfl; have hfz13_0 := blk_frozen BK108.out 0; have hfz13_1 := blk_frozen BK108.out 1; have hfz13_2 := blk_frozen BK108.out 2; have hfz13_3 := blk_frozen BK108.out 3; have hfz13_4 := blk_frozen BK108.out 4; have hfz13_5 := blk_frozen BK108.out 5; have hfz13_6 := blk_frozen BK108.out 6; have hfz13_7 := blk_frozen BK108.out 7))
  repeat (go_quiet (first | ((with_reducible refine gate_dst (N := 2) rfl ?_); refine box_event ?hg (N := 2) ?hd (cs := #[.int .u32 a0_0, .int .u32 a0_1, .int .u32 a0_2, .int .u32 a0_3, .int .u32 a0_4, .int .u32 a0_5, .int .u32 a0_6, .int .u32 a0_7]) (t := 96) ?hr ?_; (case hd => rfl); (case hg => rfl); (case hr => first | (go_simp; done) | (go_simp; rfl)); intro gb107 hg w9 hbox hb; have n0_ := Aside0.mk (below_step (by repeat (first | (with_reducible first | exact HB.out | apply below_alloc | apply pw_below_drewN | apply below_drew1) | exact HB.out)) hb); have n1_ := Aside0.mk (hbox); have n2_ := Aside0.mk ((by rw [hg]; exact (below_size (by repeat (first | (with_reducible first | exact HB.out | apply below_alloc | apply pw_below_drewN | apply below_drew1) | exact HB.out))) : w.heap.size ≤ gb107)); have n3_ := Aside0.mk ((by rw [hg]; exact (below_size (by repeat (first | (with_reducible first | exact HB.out | apply below_alloc | apply pw_below_drewN | apply below_drew1) | exact HB.out))) : w.heap.size ≤ gb107)); clear HB; have HB := n0_; have BK107 := n1_; have GW107 := n2_; have GE107 := n3_; clear n0_ n1_ n2_ n3_; clear hb hbox hg) | ((with_reducible refine gate_dst (N := 4) rfl ?_); refine box_event ?hg (N := 4) ?hd (cs := #[.int .u32 0, .int .u32 0, .int .u32 0, .int .u32 0, .int .u32 0, .int .u32 0, .int .u32 0, .int .u32 0]) (t := 96) ?hr ?_; (case hd => rfl); (case hg => rfl); (case hr => first | (go_simp; done) | (go_simp; rfl)); intro gb108 hg w10 hbox hb; have n0_ := Aside0.mk (blk_below (g := gb107) (o := .cells #[.int .u32 a0_0, .int .u32 a0_1, .int .u32 a0_2, .int .u32 a0_3, .int .u32 a0_4, .int .u32 a0_5, .int .u32 a0_6, .int .u32 a0_7] 96 (0, 0)) (by (with_reducible repeat (first | refine blk_drewN ?_ _ | refine blk_drew ?_ | refine blk_alloc ?_ _)); exact BK107.out) hb); have n1_ := Aside0.mk (below_step (by repeat (first | (with_reducible first | exact HB.out | apply below_alloc | apply pw_below_drewN | apply below_drew1 | refine below_set ?_ GE107.out) | exact HB.out)) hb); have n2_ := Aside0.mk (hbox); have n3_ := Aside0.mk ((by rw [hg]; exact (below_size (by repeat (first | (with_reducible first | exact HB.out | apply below_alloc | apply pw_below_drewN | apply below_drew1 | refine below_set ?_ GE107.out) | exact HB.out))) : w.heap.size ≤ gb108)); have n4_ := Aside0.mk ((by rw [hg]; exact (below_size (by repeat (first | (with_reducible first | exact HB.out | apply below_alloc | apply pw_below_drewN | apply below_drew1 | refine below_set ?_ GE107.out) | exact HB.out))) : w.heap.size ≤ gb108)); have n5_ := Aside0.mk ((by rw [hg]; exact Nat.ne_of_lt (blk_lt (g := gb107) (o := .cells #[.int .u32 a0_0, .int .u32 a0_1, .int .u32 a0_2, .int .u32 a0_3, .int .u32 a0_4, .int .u32 a0_5, .int .u32 a0_6, .int .u32 a0_7] 96 (0, 0)) (by (with_reducible repeat (first | refine blk_drewN ?_ _ | refine blk_drew ?_ | refine blk_alloc ?_ _)); exact BK107.out)) : gb107 ≠ gb108)); have n6_ := Aside0.mk ((by rw [hg]; exact Nat.ne_of_gt (blk_lt (g := gb107) (o := .cells #[.int .u32 a0_0, .int .u32 a0_1, .int .u32 a0_2, .int .u32 a0_3, .int .u32 a0_4, .int .u32 a0_5, .int .u32 a0_6, .int .u32 a0_7] 96 (0, 0)) (by (with_reducible repeat (first | refine blk_drewN ?_ _ | refine blk_drew ?_ | refine blk_alloc ?_ _)); exact BK107.out)) : gb108 ≠ gb107)); clear BK107; clear HB; have BK107 := n0_; have HB := n1_; have BK108 := n2_; have GW108 := n3_; have GE108 := n4_; have NB107_108 := n5_; have NB108_107 := n6_; clear n0_ n1_ n2_ n3_ n4_ n5_ n6_; clear hb hbox hg; have hnb11 := NB107_108.out; have hnc11 := NB108_107.out; have hcz12_0 : w10.cell? ⟨gb107, 0, none⟩ = some (.int .u32 a0_0) := (blk_cell BK107.out 0).trans rfl; have hcz12_1 : w10.cell? ⟨gb107, 1, none⟩ = some (.int .u32 a0_1) := (blk_cell BK107.out 1).trans rfl; have hcz12_2 : w10.cell? ⟨gb107, 2, none⟩ = some (.int .u32 a0_2) := (blk_cell BK107.out 2).trans rfl; have hcz12_3 : w10.cell? ⟨gb107, 3, none⟩ = some (.int .u32 a0_3) := (blk_cell BK107.out 3).trans rfl; have hcz12_4 : w10.cell? ⟨gb107, 4, none⟩ = some (.int .u32 a0_4) := (blk_cell BK107.out 4).trans rfl; have hcz12_5 : w10.cell? ⟨gb107, 5, none⟩ = some (.int .u32 a0_5) := (blk_cell BK107.out 5).trans rfl; have hcz12_6 : w10.cell? ⟨gb107, 6, none⟩ = some (.int .u32 a0_6) := (blk_cell BK107.out 6).trans rfl; have hcz12_7 : w10.cell? ⟨gb107, 7, none⟩ = some (.int .u32 a0_7) := (blk_cell BK107.out 7).trans rfl; have hfz12_0 := blk_frozen BK107.out 0; have hfz12_1 := blk_frozen BK107.out 1; have hfz12_2 := blk_frozen BK107.out 2; have hfz12_3 := blk_frozen BK107.out 3; have hfz12_4 := blk_frozen BK107.out 4; have hfz12_5 := blk_frozen BK107.out 5; have hfz12_6 := blk_frozen BK107.out 6; have hfz12_7 := blk_frozen BK107.out 7) | (go_at_call 71; (with_reducible refine (sum_right.calls a0_4 6 t109 _ A3.out).mono ?_); rintro e w' ⟨rfl, ⟨nd, rfl⟩⟩; (try first | exact ⟨rfl, _, World.drewN_drewN _ _ _⟩ | exact ⟨rfl, _, Eq.trans (World.drewN_drewN _ _ _) (congrArg (World.drewN _) (Nat.add_assoc _ _ _))⟩)) | (go_at_call 71; (with_reducible refine (sum_right.calls a0_4 11 t110 _ A4.out).mono ?_); rintro e w' ⟨rfl, ⟨nd, rfl⟩⟩; (try first | exact ⟨rfl, _, World.drewN_drewN _ _ _⟩ | exact ⟨rfl, _, Eq.trans (World.drewN_drewN _ _ _) (congrArg (World.drewN _) (Nat.add_assoc _ _ _))⟩)) | (go_at_call 71; (with_reducible refine (sum_right.calls a0_4 25 t111 _ A5.out).mono ?_); rintro e w' ⟨rfl, ⟨nd, rfl⟩⟩; (try first | exact ⟨rfl, _, World.drewN_drewN _ _ _⟩ | exact ⟨rfl, _, Eq.trans (World.drewN_drewN _ _ _) (congrArg (World.drewN _) (Nat.add_assoc _ _ _))⟩)) | (go_at_call 71; (with_reducible refine (sum_right.calls a0_0 2 t112 _ A6.out).mono ?_); rintro e w' ⟨rfl, ⟨nd, rfl⟩⟩; (try first | exact ⟨rfl, _, World.drewN_drewN _ _ _⟩ | exact ⟨rfl, _, Eq.trans (World.drewN_drewN _ _ _) (congrArg (World.drewN _) (Nat.add_assoc _ _ _))⟩)) | (go_at_call 71; (with_reducible refine (sum_right.calls a0_0 13 t113 _ A7.out).mono ?_); rintro e w' ⟨rfl, ⟨nd, rfl⟩⟩; (try first | exact ⟨rfl, _, World.drewN_drewN _ _ _⟩ | exact ⟨rfl, _, Eq.trans (World.drewN_drewN _ _ _) (congrArg (World.drewN _) (Nat.add_assoc _ _ _))⟩)) | (go_at_call 71; (with_reducible refine (sum_right.calls a0_0 22 t114 _ A8.out).mono ?_); rintro e w' ⟨rfl, ⟨nd, rfl⟩⟩; (try first | exact ⟨rfl, _, World.drewN_drewN _ _ _⟩ | exact ⟨rfl, _, Eq.trans (World.drewN_drewN _ _ _) (congrArg (World.drewN _) (Nat.add_assoc _ _ _))⟩); have hcz13_0 : w10.cell? ⟨gb108, 0, none⟩ = some (.int .u32 0) := (blk_cell BK108.out 0).trans rfl; have hcz13_1 : w10.cell? ⟨gb108, 1, none⟩ = some (.int .u32 0) := (blk_cell BK108.out 1).trans rfl; have hcz13_2 : w10.cell? ⟨gb108, 2, none⟩ = some (.int .u32 0) := (blk_cell BK108.out 2).trans rfl; have hcz13_3 : w10.cell? ⟨gb108, 3, none⟩ = some (.int .u32 0) := (blk_cell BK108.out 3).trans rfl; have hcz13_4 : w10.cell? ⟨gb108, 4, none⟩ = some (.int .u32 0) := (blk_cell BK108.out 4).trans rfl; have hcz13_5 : w10.cell? ⟨gb108, 5, none⟩ = some (.int .u32 0) := (blk_cell BK108.out 5).trans rfl; have hcz13_6 : w10.cell? ⟨gb108, 6, none⟩ = some (.int .u32 0) := (blk_cell BK108.out 6).trans rfl; have hcz13_7 : w10.cell? ⟨gb108, 7, none⟩ = some (.int .u32 0) := (blk_cell BK108.out 7).trans rfl; have hfz13_0 := blk_frozen BK108.out 0; have hfz13_1 := blk_frozen BK108.out 1; have hfz13_2 := blk_frozen BK108.out 2; have hfz13_3 := blk_frozen BK108.out 3; have hfz13_4 := blk_frozen BK108.out 4; have hfz13_5 := blk_frozen BK108.out 5; have hfz13_6 := blk_frozen BK108.out 6; have hfz13_7 := blk_frozen BK108.out 7)); try go_wp2_with (first | ((with_reducible refine gate_dst (N := 2) rfl ?_); refine box_event ?hg (N := 2) ?hd (cs := #[.int .u32 a0_0, .int .u32 a0_1, .int .u32 a0_2, .int .u32 a0_3, .int .u32 a0_4, .int .u32 a0_5, .int .u32 a0_6, .int .u32 a0_7]) (t := 96) ?hr ?_; (case hd => rfl); (case hg => rfl); (case hr => first | (go_simp; done) | (go_simp; rfl)); intro gb107 hg w9 hbox hb; have n0_ := Aside0.mk (below_step (by repeat (first | (with_reducible first | exact HB.out | apply below_alloc | apply pw_below_drewN | apply below_drew1) | exact HB.out)) hb); have n1_ := Aside0.mk (hbox); have n2_ := Aside0.mk ((by rw [hg]; exact (below_size (by repeat (first | (with_reducible first | exact HB.out | apply below_alloc | apply pw_below_drewN | apply below_drew1) | exact HB.out))) : w.heap.size ≤ gb107)); have n3_ := Aside0.mk ((by rw [hg]; exact (below_size (by repeat (first | (with_reducible first | exact HB.out | apply below_alloc | apply pw_below_drewN | apply below_drew1) | exact HB.out))) : w.heap.size ≤ gb107)); clear HB; have HB := n0_; have BK107 := n1_; have GW107 := n2_; have GE107 := n3_; clear n0_ n1_ n2_ n3_; clear hb hbox hg) | ((with_reducible refine gate_dst (N := 4) rfl ?_); refine box_event ?hg (N := 4) ?hd (cs := #[.int .u32 0, .int .u32 0, .int .u32 0, .int .u32 0, .int .u32 0, .int .u32 0, .int .u32 0, .int .u32 0]) (t := 96) ?hr ?_; (case hd => rfl); (case hg => rfl); (case hr => first | (go_simp; done) | (go_simp; rfl)); intro gb108 hg w10 hbox hb; have n0_ := Aside0.mk (blk_below (g := gb107) (o := .cells #[.int .u32 a0_0, .int .u32 a0_1, .int .u32 a0_2, .int .u32 a0_3, .int .u32 a0_4, .int .u32 a0_5, .int .u32 a0_6, .int .u32 a0_7] 96 (0, 0)) (by (with_reducible repeat (first | refine blk_drewN ?_ _ | refine blk_drew ?_ | refine blk_alloc ?_ _)); exact BK107.out) hb); have n1_ := Aside0.mk (below_step (by repeat (first | (with_reducible first | exact HB.out | apply below_alloc | apply pw_below_drewN | apply below_drew1 | refine below_set ?_ GE107.out) | exact HB.out)) hb); have n2_ := Aside0.mk (hbox); have n3_ := Aside0.mk ((by rw [hg]; exact (below_size (by repeat (first | (with_reducible first | exact HB.out | apply below_alloc | apply pw_below_drewN | apply below_drew1 | refine below_set ?_ GE107.out) | exact HB.out))) : w.heap.size ≤ gb108)); have n4_ := Aside0.mk ((by rw [hg]; exact (below_size (by repeat (first | (with_reducible first | exact HB.out | apply below_alloc | apply pw_below_drewN | apply below_drew1 | refine below_set ?_ GE107.out) | exact HB.out))) : w.heap.size ≤ gb108)); have n5_ := Aside0.mk ((by rw [hg]; exact Nat.ne_of_lt (blk_lt (g := gb107) (o := .cells #[.int .u32 a0_0, .int .u32 a0_1, .int .u32 a0_2, .int .u32 a0_3, .int .u32 a0_4, .int .u32 a0_5, .int .u32 a0_6, .int .u32 a0_7] 96 (0, 0)) (by (with_reducible repeat (first | refine blk_drewN ?_ _ | refine blk_drew ?_ | refine blk_alloc ?_ _)); exact BK107.out)) : gb107 ≠ gb108)); have n6_ := Aside0.mk ((by rw [hg]; exact Nat.ne_of_gt (blk_lt (g := gb107) (o := .cells #[.int .u32 a0_0, .int .u32 a0_1, .int .u32 a0_2, .int .u32 a0_3, .int .u32 a0_4, .int .u32 a0_5, .int .u32 a0_6, .int .u32 a0_7] 96 (0, 0)) (by (with_reducible repeat (first | refine blk_drewN ?_ _ | refine blk_drew ?_ | refine blk_alloc ?_ _)); exact BK107.out)) : gb108 ≠ gb107)); clear BK107; clear HB; have BK107 := n0_; have HB := n1_; have BK108 := n2_; have GW108 := n3_; have GE108 := n4_; have NB107_108 := n5_; have NB108_107 := n6_; clear n0_ n1_ n2_ n3_ n4_ n5_ n6_; clear hb hbox hg; have hnb11 := NB107_108.out; have hnc11 := NB108_107.out; have hcz12_0 : w10.cell? ⟨gb107, 0, none⟩ = some (.int .u32 a0_0) := (blk_cell BK107.out 0).trans rfl; have hcz12_1 : w10.cell? ⟨gb107, 1, none⟩ = some (.int .u32 a0_1) := (blk_cell BK107.out 1).trans rfl; have hcz12_2 : w10.cell? ⟨gb107, 2, none⟩ = some (.int .u32 a0_2) := (blk_cell BK107.out 2).trans rfl; have hcz12_3 : w10.cell? ⟨gb107, 3, none⟩ = some (.int .u32 a0_3) := (blk_cell BK107.out 3).trans rfl; have hcz12_4 : w10.cell? ⟨gb107, 4, none⟩ = some (.int .u32 a0_4) := (blk_cell BK107.out 4).trans rfl; have hcz12_5 : w10.cell? ⟨gb107, 5, none⟩ = some (.int .u32 a0_5) := (blk_cell BK107.out 5).trans rfl; have hcz12_6 : w10.cell? ⟨gb107, 6, none⟩ = some (.int .u32 a0_6) := (blk_cell BK107.out 6).trans rfl; have hcz12_7 : w10.cell? ⟨gb107, 7, none⟩ = some (.int .u32 a0_7) := (blk_cell BK107.out 7).trans rfl; have hfz12_0 := blk_frozen BK107.out 0; have hfz12_1 := blk_frozen BK107.out 1; have hfz12_2 := blk_frozen BK107.out 2; have hfz12_3 := blk_frozen BK107.out 3; have hfz12_4 := blk_frozen BK107.out 4; have hfz12_5 := blk_frozen BK107.out 5; have hfz12_6 := blk_frozen BK107.out 6; have hfz12_7 := blk_frozen BK107.out 7) | (go_at_call 71; (with_reducible refine (sum_right.calls a0_4 6 t109 _ A3.out).mono ?_); rintro e w' ⟨rfl, ⟨nd, rfl⟩⟩; (try first | exact ⟨rfl, _, World.drewN_drewN _ _ _⟩ | exact ⟨rfl, _, Eq.trans (World.drewN_drewN _ _ _) (congrArg (World.drewN _) (Nat.add_assoc _ _ _))⟩)) | (go_at_call 71; (with_reducible refine (sum_right.calls a0_4 11 t110 _ A4.out).mono ?_); rintro e w' ⟨rfl, ⟨nd, rfl⟩⟩; (try first | exact ⟨rfl, _, World.drewN_drewN _ _ _⟩ | exact ⟨rfl, _, Eq.trans (World.drewN_drewN _ _ _) (congrArg (World.drewN _) (Nat.add_assoc _ _ _))⟩)) | (go_at_call 71; (with_reducible refine (sum_right.calls a0_4 25 t111 _ A5.out).mono ?_); rintro e w' ⟨rfl, ⟨nd, rfl⟩⟩; (try first | exact ⟨rfl, _, World.drewN_drewN _ _ _⟩ | exact ⟨rfl, _, Eq.trans (World.drewN_drewN _ _ _) (congrArg (World.drewN _) (Nat.add_assoc _ _ _))⟩)) | (go_at_call 71; (with_reducible refine (sum_right.calls a0_0 2 t112 _ A6.out).mono ?_); rintro e w' ⟨rfl, ⟨nd, rfl⟩⟩; (try first | exact ⟨rfl, _, World.drewN_drewN _ _ _⟩ | exact ⟨rfl, _, Eq.trans (World.drewN_drewN _ _ _) (congrArg (World.drewN _) (Nat.add_assoc _ _ _))⟩)) | (go_at_call 71; (with_reducible refine (sum_right.calls a0_0 13 t113 _ A7.out).mono ?_); rintro e w' ⟨rfl, ⟨nd, rfl⟩⟩; (try first | exact ⟨rfl, _, World.drewN_drewN _ _ _⟩ | exact ⟨rfl, _, Eq.trans (World.drewN_drewN _ _ _) (congrArg (World.drewN _) (Nat.add_assoc _ _ _))⟩)) | (go_at_call 71; (with_reducible refine (sum_right.calls a0_0 22 t114 _ A8.out).mono ?_); rintro e w' ⟨rfl, ⟨nd, rfl⟩⟩; (try first | exact ⟨rfl, _, World.drewN_drewN _ _ _⟩ | exact ⟨rfl, _, Eq.trans (World.drewN_drewN _ _ _) (congrArg (World.drewN _) (Nat.add_assoc _ _ _))⟩); have hcz13_0 : w10.cell? ⟨gb108, 0, none⟩ = some (.int .u32 0) := (blk_cell BK108.out 0).trans rfl; have hcz13_1 : w10.cell? ⟨gb108, 1, none⟩ = some (.int .u32 0) := (blk_cell BK108.out 1).trans rfl; have hcz13_2 : w10.cell? ⟨gb108, 2, none⟩ = some (.int .u32 0) := (blk_cell BK108.out 2).trans rfl; have hcz13_3 : w10.cell? ⟨gb108, 3, none⟩ = some (.int .u32 0) := (blk_cell BK108.out 3).trans rfl; have hcz13_4 : w10.cell? ⟨gb108, 4, none⟩ = some (.int .u32 0) := (blk_cell BK108.out 4).trans rfl; have hcz13_5 : w10.cell? ⟨gb108, 5, none⟩ = some (.int .u32 0) := (blk_cell BK108.out 5).trans rfl; have hcz13_6 : w10.cell? ⟨gb108, 6, none⟩ = some (.int .u32 0) := (blk_cell BK108.out 6).trans rfl; have hcz13_7 : w10.cell? ⟨gb108, 7, none⟩ = some (.int .u32 0) := (blk_cell BK108.out 7).trans rfl; have hfz13_0 := blk_frozen BK108.out 0; have hfz13_1 := blk_frozen BK108.out 1; have hfz13_2 := blk_frozen BK108.out 2; have hfz13_3 := blk_frozen BK108.out 3; have hfz13_4 := blk_frozen BK108.out 4; have hfz13_5 := blk_frozen BK108.out 5; have hfz13_6 := blk_frozen BK108.out 6; have hfz13_7 := blk_frozen BK108.out 7)))
  refine bodyPost_ret (results_cell_row rfl _ _ gb108 96 #[.int .u32 (((((a0_7 + (Go.bits .xor .u32 (Go.bits .xor .u32 t109 t110) t111)) + (Go.bits .xor .u32 a0_6 (Go.bits .and .u32 a0_4 (Go.bits .xor .u32 a0_5 a0_6)))) + a1) + ((Go.bits .xor .u32 (Go.bits .xor .u32 t112 t113) t114) + (Go.bits .or .u32 (Go.bits .and .u32 a0_0 a0_1) (Go.bits .and .u32 a0_2 (Go.bits .or .u32 a0_0 a0_1))))) % 4294967296), .int .u32 a0_0, .int .u32 a0_1, .int .u32 a0_2, .int .u32 ((a0_3 + (((a0_7 + (Go.bits .xor .u32 (Go.bits .xor .u32 t109 t110) t111)) + (Go.bits .xor .u32 a0_6 (Go.bits .and .u32 a0_4 (Go.bits .xor .u32 a0_5 a0_6)))) + a1)) % 4294967296), .int .u32 a0_4, .int .u32 a0_5, .int .u32 a0_6] (0, 0) _ rfl (by (with_reducible repeat (first | refine blk_drewN ?_ _ | refine blk_drew ?_ | refine blk_alloc ?_ _)); refine blk_put (cs := #[.int .u32 (((((a0_7 + (Go.bits .xor .u32 (Go.bits .xor .u32 t109 t110) t111)) + (Go.bits .xor .u32 a0_6 (Go.bits .and .u32 a0_4 (Go.bits .xor .u32 a0_5 a0_6)))) + a1) + ((Go.bits .xor .u32 (Go.bits .xor .u32 t112 t113) t114) + (Go.bits .or .u32 (Go.bits .and .u32 a0_0 a0_1) (Go.bits .and .u32 a0_2 (Go.bits .or .u32 a0_0 a0_1))))) % 4294967296), .int .u32 a0_0, .int .u32 a0_1, .int .u32 a0_2, .int .u32 ((a0_3 + (((a0_7 + (Go.bits .xor .u32 (Go.bits .xor .u32 t109 t110) t111)) + (Go.bits .xor .u32 a0_6 (Go.bits .and .u32 a0_4 (Go.bits .xor .u32 a0_5 a0_6)))) + a1)) % 4294967296), .int .u32 a0_4, .int .u32 a0_5, .int .u32 0]) ?_ 7 _ rfl; (with_reducible repeat (first | refine blk_drewN ?_ _ | refine blk_drew ?_ | refine blk_alloc ?_ _)); refine blk_put (cs := #[.int .u32 (((((a0_7 + (Go.bits .xor .u32 (Go.bits .xor .u32 t109 t110) t111)) + (Go.bits .xor .u32 a0_6 (Go.bits .and .u32 a0_4 (Go.bits .xor .u32 a0_5 a0_6)))) + a1) + ((Go.bits .xor .u32 (Go.bits .xor .u32 t112 t113) t114) + (Go.bits .or .u32 (Go.bits .and .u32 a0_0 a0_1) (Go.bits .and .u32 a0_2 (Go.bits .or .u32 a0_0 a0_1))))) % 4294967296), .int .u32 a0_0, .int .u32 a0_1, .int .u32 a0_2, .int .u32 ((a0_3 + (((a0_7 + (Go.bits .xor .u32 (Go.bits .xor .u32 t109 t110) t111)) + (Go.bits .xor .u32 a0_6 (Go.bits .and .u32 a0_4 (Go.bits .xor .u32 a0_5 a0_6)))) + a1)) % 4294967296), .int .u32 a0_4, .int .u32 0, .int .u32 0]) ?_ 6 _ rfl; (with_reducible repeat (first | refine blk_drewN ?_ _ | refine blk_drew ?_ | refine blk_alloc ?_ _)); refine blk_put (cs := #[.int .u32 (((((a0_7 + (Go.bits .xor .u32 (Go.bits .xor .u32 t109 t110) t111)) + (Go.bits .xor .u32 a0_6 (Go.bits .and .u32 a0_4 (Go.bits .xor .u32 a0_5 a0_6)))) + a1) + ((Go.bits .xor .u32 (Go.bits .xor .u32 t112 t113) t114) + (Go.bits .or .u32 (Go.bits .and .u32 a0_0 a0_1) (Go.bits .and .u32 a0_2 (Go.bits .or .u32 a0_0 a0_1))))) % 4294967296), .int .u32 a0_0, .int .u32 a0_1, .int .u32 a0_2, .int .u32 ((a0_3 + (((a0_7 + (Go.bits .xor .u32 (Go.bits .xor .u32 t109 t110) t111)) + (Go.bits .xor .u32 a0_6 (Go.bits .and .u32 a0_4 (Go.bits .xor .u32 a0_5 a0_6)))) + a1)) % 4294967296), .int .u32 0, .int .u32 0, .int .u32 0]) ?_ 5 _ rfl; (with_reducible repeat (first | refine blk_drewN ?_ _ | refine blk_drew ?_ | refine blk_alloc ?_ _)); refine blk_put (cs := #[.int .u32 (((((a0_7 + (Go.bits .xor .u32 (Go.bits .xor .u32 t109 t110) t111)) + (Go.bits .xor .u32 a0_6 (Go.bits .and .u32 a0_4 (Go.bits .xor .u32 a0_5 a0_6)))) + a1) + ((Go.bits .xor .u32 (Go.bits .xor .u32 t112 t113) t114) + (Go.bits .or .u32 (Go.bits .and .u32 a0_0 a0_1) (Go.bits .and .u32 a0_2 (Go.bits .or .u32 a0_0 a0_1))))) % 4294967296), .int .u32 a0_0, .int .u32 a0_1, .int .u32 a0_2, .int .u32 0, .int .u32 0, .int .u32 0, .int .u32 0]) ?_ 4 _ rfl; (with_reducible repeat (first | refine blk_drewN ?_ _ | refine blk_drew ?_ | refine blk_alloc ?_ _)); refine blk_put (cs := #[.int .u32 (((((a0_7 + (Go.bits .xor .u32 (Go.bits .xor .u32 t109 t110) t111)) + (Go.bits .xor .u32 a0_6 (Go.bits .and .u32 a0_4 (Go.bits .xor .u32 a0_5 a0_6)))) + a1) + ((Go.bits .xor .u32 (Go.bits .xor .u32 t112 t113) t114) + (Go.bits .or .u32 (Go.bits .and .u32 a0_0 a0_1) (Go.bits .and .u32 a0_2 (Go.bits .or .u32 a0_0 a0_1))))) % 4294967296), .int .u32 a0_0, .int .u32 a0_1, .int .u32 0, .int .u32 0, .int .u32 0, .int .u32 0, .int .u32 0]) ?_ 3 _ rfl; (with_reducible repeat (first | refine blk_drewN ?_ _ | refine blk_drew ?_ | refine blk_alloc ?_ _)); refine blk_put (cs := #[.int .u32 (((((a0_7 + (Go.bits .xor .u32 (Go.bits .xor .u32 t109 t110) t111)) + (Go.bits .xor .u32 a0_6 (Go.bits .and .u32 a0_4 (Go.bits .xor .u32 a0_5 a0_6)))) + a1) + ((Go.bits .xor .u32 (Go.bits .xor .u32 t112 t113) t114) + (Go.bits .or .u32 (Go.bits .and .u32 a0_0 a0_1) (Go.bits .and .u32 a0_2 (Go.bits .or .u32 a0_0 a0_1))))) % 4294967296), .int .u32 a0_0, .int .u32 0, .int .u32 0, .int .u32 0, .int .u32 0, .int .u32 0, .int .u32 0]) ?_ 2 _ rfl; (with_reducible repeat (first | refine blk_drewN ?_ _ | refine blk_drew ?_ | refine blk_alloc ?_ _)); refine blk_put (cs := #[.int .u32 (((((a0_7 + (Go.bits .xor .u32 (Go.bits .xor .u32 t109 t110) t111)) + (Go.bits .xor .u32 a0_6 (Go.bits .and .u32 a0_4 (Go.bits .xor .u32 a0_5 a0_6)))) + a1) + ((Go.bits .xor .u32 (Go.bits .xor .u32 t112 t113) t114) + (Go.bits .or .u32 (Go.bits .and .u32 a0_0 a0_1) (Go.bits .and .u32 a0_2 (Go.bits .or .u32 a0_0 a0_1))))) % 4294967296), .int .u32 0, .int .u32 0, .int .u32 0, .int .u32 0, .int .u32 0, .int .u32 0, .int .u32 0]) ?_ 1 _ rfl; (with_reducible repeat (first | refine blk_drewN ?_ _ | refine blk_drew ?_ | refine blk_alloc ?_ _)); refine blk_put (cs := #[.int .u32 0, .int .u32 0, .int .u32 0, .int .u32 0, .int .u32 0, .int .u32 0, .int .u32 0, .int .u32 0]) ?_ 0 _ rfl; (with_reducible repeat (first | refine blk_drewN ?_ _ | refine blk_drew ?_ | refine blk_alloc ?_ _)); exact BK108.out) Tryd.underlying96 rfl (by kernel_rfl)) rfl ?_
  exact ⟨by first | rfl | (simp [errW_none, errW_some] <;> rfl) | (simp [*, errW_none, errW_some] <;> rfl), by repeat (first | (with_reducible first | exact HB.out | apply below_alloc | apply pw_below_drewN | apply below_drew1 | refine below_set ?_ GE107.out | refine below_set ?_ GE108.out) | exact HB.out)⟩

/-! ### sum_state_plus: function 73 -/
def sum_state_plus.f (a0_0 : Int) (a0_1 : Int) (a0_2 : Int) (a0_3 : Int) (a0_4 : Int) (a0_5 : Int) (a0_6 : Int) (a0_7 : Int) (a1_0 : Int) (a1_1 : Int) (a1_2 : Int) (a1_3 : Int) (a1_4 : Int) (a1_5 : Int) (a1_6 : Int) (a1_7 : Int) : Option (Int × Int × Int × Int × Int × Int × Int × Int) := some ((a0_0 + a1_0) % 4294967296, (a0_1 + a1_1) % 4294967296, (a0_2 + a1_2) % 4294967296, (a0_3 + a1_3) % 4294967296, (a0_4 + a1_4) % 4294967296, (a0_5 + a1_5) % 4294967296, (a0_6 + a1_6) % 4294967296, (a0_7 + a1_7) % 4294967296)
set_option maxHeartbeats 8000000 in
set_option maxRecDepth 100000 in
theorem sum_state_plus.calls (a0_0 : Int) (a0_1 : Int) (a0_2 : Int) (a0_3 : Int) (a0_4 : Int) (a0_5 : Int) (a0_6 : Int) (a0_7 : Int) (a1_0 : Int) (a1_1 : Int) (a1_2 : Int) (a1_3 : Int) (a1_4 : Int) (a1_5 : Int) (a1_6 : Int) (a1_7 : Int) (r1 : Int) (r2 : Int) (r3 : Int) (r4 : Int) (r5 : Int) (r6 : Int) (r7 : Int) (r8 : Int) (w : World) (h : sum_state_plus.f a0_0 a0_1 a0_2 a0_3 a0_4 a0_5 a0_6 a0_7 a1_0 a1_1 a1_2 a1_3 a1_4 a1_5 a1_6 a1_7 = some (r1, r2, r3, r4, r5, r6, r7, r8)) :
    Calls Tryd.prog 73 #[.agg #[.int .u32 a0_0, .int .u32 a0_1, .int .u32 a0_2, .int .u32 a0_3, .int .u32 a0_4, .int .u32 a0_5, .int .u32 a0_6, .int .u32 a0_7], .agg #[.int .u32 a1_0, .int .u32 a1_1, .int .u32 a1_2, .int .u32 a1_3, .int .u32 a1_4, .int .u32 a1_5, .int .u32 a1_6, .int .u32 a1_7]] w fun e w' => e = .returned (.agg #[.int .u32 r1, .int .u32 r2, .int .u32 r3, .int .u32 r4, .int .u32 r5, .int .u32 r6, .int .u32 r7, .int .u32 r8]) ∧ Below w.heap.size w w' := by
  have hu96 := Tryd.underlying96
  have HB := Aside0.mk (Below.refl w.heap.size w)
  have H : (some ((a0_0 + a1_0) % 4294967296, (a0_1 + a1_1) % 4294967296, (a0_2 + a1_2) % 4294967296, (a0_3 + a1_3) % 4294967296, (a0_4 + a1_4) % 4294967296, (a0_5 + a1_5) % 4294967296, (a0_6 + a1_6) % 4294967296, (a0_7 + a1_7) % 4294967296)) = some (r1, r2, r3, r4, r5, r6, r7, r8) := h
  clear h
  simp only [Option.some.injEq, Prod.mk.injEq] at H
  obtain ⟨rfl, rfl, rfl, rfl, rfl, rfl, rfl, rfl⟩ := H
  go_enter Tryd.func73, Tryd.ntmps73
  go_wp2_with (first | ((with_reducible refine gate_dst (N := 2) rfl ?_); refine box_event ?hg (N := 2) ?hd (cs := #[.int .u32 a0_0, .int .u32 a0_1, .int .u32 a0_2, .int .u32 a0_3, .int .u32 a0_4, .int .u32 a0_5, .int .u32 a0_6, .int .u32 a0_7]) (t := 96) ?hr ?_; (case hd => rfl); (case hg => rfl); (case hr => first | (go_simp; done) | (go_simp; rfl)); intro gb115 hg w3 hbox hb; have n0_ := Aside0.mk (below_step (by repeat (first | (with_reducible first | exact HB.out | apply below_alloc | apply pw_below_drewN | apply below_drew1) | exact HB.out)) hb); have n1_ := Aside0.mk (hbox); have n2_ := Aside0.mk ((by rw [hg]; exact (below_size (by repeat (first | (with_reducible first | exact HB.out | apply below_alloc | apply pw_below_drewN | apply below_drew1) | exact HB.out))) : w.heap.size ≤ gb115)); have n3_ := Aside0.mk ((by rw [hg]; exact (below_size (by repeat (first | (with_reducible first | exact HB.out | apply below_alloc | apply pw_below_drewN | apply below_drew1) | exact HB.out))) : w.heap.size ≤ gb115)); clear HB; have HB := n0_; have BK115 := n1_; have GW115 := n2_; have GE115 := n3_; clear n0_ n1_ n2_ n3_; clear hb hbox hg) | ((with_reducible refine gate_dst (N := 3) rfl ?_); refine box_event ?hg (N := 3) ?hd (cs := #[.int .u32 a1_0, .int .u32 a1_1, .int .u32 a1_2, .int .u32 a1_3, .int .u32 a1_4, .int .u32 a1_5, .int .u32 a1_6, .int .u32 a1_7]) (t := 96) ?hr ?_; (case hd => rfl); (case hg => rfl); (case hr => first | (go_simp; done) | (go_simp; rfl)); intro gb116 hg w4 hbox hb; have n0_ := Aside0.mk (blk_below (g := gb115) (o := .cells #[.int .u32 a0_0, .int .u32 a0_1, .int .u32 a0_2, .int .u32 a0_3, .int .u32 a0_4, .int .u32 a0_5, .int .u32 a0_6, .int .u32 a0_7] 96 (0, 0)) (by (with_reducible repeat (first | refine blk_drewN ?_ _ | refine blk_drew ?_ | refine blk_alloc ?_ _)); exact BK115.out) hb); have n1_ := Aside0.mk (below_step (by repeat (first | (with_reducible first | exact HB.out | apply below_alloc | apply pw_below_drewN | apply below_drew1 | refine below_set ?_ GE115.out) | exact HB.out)) hb); have n2_ := Aside0.mk (hbox); have n3_ := Aside0.mk ((by rw [hg]; exact (below_size (by repeat (first | (with_reducible first | exact HB.out | apply below_alloc | apply pw_below_drewN | apply below_drew1 | refine below_set ?_ GE115.out) | exact HB.out))) : w.heap.size ≤ gb116)); have n4_ := Aside0.mk ((by rw [hg]; exact (below_size (by repeat (first | (with_reducible first | exact HB.out | apply below_alloc | apply pw_below_drewN | apply below_drew1 | refine below_set ?_ GE115.out) | exact HB.out))) : w.heap.size ≤ gb116)); have n5_ := Aside0.mk ((by rw [hg]; exact Nat.ne_of_lt (blk_lt (g := gb115) (o := .cells #[.int .u32 a0_0, .int .u32 a0_1, .int .u32 a0_2, .int .u32 a0_3, .int .u32 a0_4, .int .u32 a0_5, .int .u32 a0_6, .int .u32 a0_7] 96 (0, 0)) (by (with_reducible repeat (first | refine blk_drewN ?_ _ | refine blk_drew ?_ | refine blk_alloc ?_ _)); exact BK115.out)) : gb115 ≠ gb116)); have n6_ := Aside0.mk ((by rw [hg]; exact Nat.ne_of_gt (blk_lt (g := gb115) (o := .cells #[.int .u32 a0_0, .int .u32 a0_1, .int .u32 a0_2, .int .u32 a0_3, .int .u32 a0_4, .int .u32 a0_5, .int .u32 a0_6, .int .u32 a0_7] 96 (0, 0)) (by (with_reducible repeat (first | refine blk_drewN ?_ _ | refine blk_drew ?_ | refine blk_alloc ?_ _)); exact BK115.out)) : gb116 ≠ gb115)); clear BK115; clear HB; have BK115 := n0_; have HB := n1_; have BK116 := n2_; have GW116 := n3_; have GE116 := n4_; have NB115_116 := n5_; have NB116_115 := n6_; clear n0_ n1_ n2_ n3_ n4_ n5_ n6_; clear hb hbox hg) | ((with_reducible refine gate_dst (N := 4) rfl ?_); refine box_event ?hg (N := 4) ?hd (cs := #[.int .u32 0, .int .u32 0, .int .u32 0, .int .u32 0, .int .u32 0, .int .u32 0, .int .u32 0, .int .u32 0]) (t := 96) ?hr ?_; (case hd => rfl); (case hg => rfl); (case hr => first | (go_simp; done) | (go_simp; rfl)); intro gb117 hg w5 hbox hb; have n0_ := Aside0.mk (blk_below (g := gb115) (o := .cells #[.int .u32 a0_0, .int .u32 a0_1, .int .u32 a0_2, .int .u32 a0_3, .int .u32 a0_4, .int .u32 a0_5, .int .u32 a0_6, .int .u32 a0_7] 96 (0, 0)) (by (with_reducible repeat (first | refine blk_drewN ?_ _ | refine blk_drew ?_ | refine blk_alloc ?_ _)); exact BK115.out) hb); have n1_ := Aside0.mk (blk_below (g := gb116) (o := .cells #[.int .u32 a1_0, .int .u32 a1_1, .int .u32 a1_2, .int .u32 a1_3, .int .u32 a1_4, .int .u32 a1_5, .int .u32 a1_6, .int .u32 a1_7] 96 (0, 0)) (by (with_reducible repeat (first | refine blk_drewN ?_ _ | refine blk_drew ?_ | refine blk_alloc ?_ _)); exact BK116.out) hb); have n2_ := Aside0.mk (below_step (by repeat (first | (with_reducible first | exact HB.out | apply below_alloc | apply pw_below_drewN | apply below_drew1 | refine below_set ?_ GE115.out | refine below_set ?_ GE116.out) | exact HB.out)) hb); have n3_ := Aside0.mk (hbox); have n4_ := Aside0.mk ((by rw [hg]; exact (below_size (by repeat (first | (with_reducible first | exact HB.out | apply below_alloc | apply pw_below_drewN | apply below_drew1 | refine below_set ?_ GE115.out | refine below_set ?_ GE116.out) | exact HB.out))) : w.heap.size ≤ gb117)); have n5_ := Aside0.mk ((by rw [hg]; exact (below_size (by repeat (first | (with_reducible first | exact HB.out | apply below_alloc | apply pw_below_drewN | apply below_drew1 | refine below_set ?_ GE115.out | refine below_set ?_ GE116.out) | exact HB.out))) : w.heap.size ≤ gb117)); have n6_ := Aside0.mk ((by rw [hg]; exact Nat.ne_of_lt (blk_lt (g := gb115) (o := .cells #[.int .u32 a0_0, .int .u32 a0_1, .int .u32 a0_2, .int .u32 a0_3, .int .u32 a0_4, .int .u32 a0_5, .int .u32 a0_6, .int .u32 a0_7] 96 (0, 0)) (by (with_reducible repeat (first | refine blk_drewN ?_ _ | refine blk_drew ?_ | refine blk_alloc ?_ _)); exact BK115.out)) : gb115 ≠ gb117)); have n7_ := Aside0.mk ((by rw [hg]; exact Nat.ne_of_gt (blk_lt (g := gb115) (o := .cells #[.int .u32 a0_0, .int .u32 a0_1, .int .u32 a0_2, .int .u32 a0_3, .int .u32 a0_4, .int .u32 a0_5, .int .u32 a0_6, .int .u32 a0_7] 96 (0, 0)) (by (with_reducible repeat (first | refine blk_drewN ?_ _ | refine blk_drew ?_ | refine blk_alloc ?_ _)); exact BK115.out)) : gb117 ≠ gb115)); have n8_ := Aside0.mk ((by rw [hg]; exact Nat.ne_of_lt (blk_lt (g := gb116) (o := .cells #[.int .u32 a1_0, .int .u32 a1_1, .int .u32 a1_2, .int .u32 a1_3, .int .u32 a1_4, .int .u32 a1_5, .int .u32 a1_6, .int .u32 a1_7] 96 (0, 0)) (by (with_reducible repeat (first | refine blk_drewN ?_ _ | refine blk_drew ?_ | refine blk_alloc ?_ _)); exact BK116.out)) : gb116 ≠ gb117)); have n9_ := Aside0.mk ((by rw [hg]; exact Nat.ne_of_gt (blk_lt (g := gb116) (o := .cells #[.int .u32 a1_0, .int .u32 a1_1, .int .u32 a1_2, .int .u32 a1_3, .int .u32 a1_4, .int .u32 a1_5, .int .u32 a1_6, .int .u32 a1_7] 96 (0, 0)) (by (with_reducible repeat (first | refine blk_drewN ?_ _ | refine blk_drew ?_ | refine blk_alloc ?_ _)); exact BK116.out)) : gb117 ≠ gb116)); clear BK115; clear BK116; clear HB; have BK115 := n0_; have BK116 := n1_; have HB := n2_; have BK117 := n3_; have GW117 := n4_; have GE117 := n5_; have NB115_117 := n6_; have NB117_115 := n7_; have NB116_117 := n8_; have NB117_116 := n9_; clear n0_ n1_ n2_ n3_ n4_ n5_ n6_ n7_ n8_ n9_; clear hb hbox hg; have hnb6 := NB115_116.out; have hnc6 := NB116_115.out; have hnb7 := NB115_117.out; have hnc7 := NB117_115.out; have hcz8_0 : w5.cell? ⟨gb115, 0, none⟩ = some (.int .u32 a0_0) := (blk_cell BK115.out 0).trans rfl; have hcz8_1 : w5.cell? ⟨gb115, 1, none⟩ = some (.int .u32 a0_1) := (blk_cell BK115.out 1).trans rfl; have hcz8_2 : w5.cell? ⟨gb115, 2, none⟩ = some (.int .u32 a0_2) := (blk_cell BK115.out 2).trans rfl; have hcz8_3 : w5.cell? ⟨gb115, 3, none⟩ = some (.int .u32 a0_3) := (blk_cell BK115.out 3).trans rfl; have hcz8_4 : w5.cell? ⟨gb115, 4, none⟩ = some (.int .u32 a0_4) := (blk_cell BK115.out 4).trans rfl; have hcz8_5 : w5.cell? ⟨gb115, 5, none⟩ = some (.int .u32 a0_5) := (blk_cell BK115.out 5).trans rfl; have hcz8_6 : w5.cell? ⟨gb115, 6, none⟩ = some (.int .u32 a0_6) := (blk_cell BK115.out 6).trans rfl; have hcz8_7 : w5.cell? ⟨gb115, 7, none⟩ = some (.int .u32 a0_7) := (blk_cell BK115.out 7).trans rfl; have hfz8_0 := blk_frozen BK115.out 0; have hfz8_1 := blk_frozen BK115.out 1; have hfz8_2 := blk_frozen BK115.out 2; have hfz8_3 := blk_frozen BK115.out 3; have hfz8_4 := blk_frozen BK115.out 4; have hfz8_5 := blk_frozen BK115.out 5; have hfz8_6 := blk_frozen BK115.out 6; have hfz8_7 := blk_frozen BK115.out 7; have hnb9 := NB116_117.out; have hnc9 := NB117_116.out; have hcz10_0 : w5.cell? ⟨gb116, 0, none⟩ = some (.int .u32 a1_0) := (blk_cell BK116.out 0).trans rfl; have hcz10_1 : w5.cell? ⟨gb116, 1, none⟩ = some (.int .u32 a1_1) := (blk_cell BK116.out 1).trans rfl; have hcz10_2 : w5.cell? ⟨gb116, 2, none⟩ = some (.int .u32 a1_2) := (blk_cell BK116.out 2).trans rfl; have hcz10_3 : w5.cell? ⟨gb116, 3, none⟩ = some (.int .u32 a1_3) := (blk_cell BK116.out 3).trans rfl; have hcz10_4 : w5.cell? ⟨gb116, 4, none⟩ = some (.int .u32 a1_4) := (blk_cell BK116.out 4).trans rfl; have hcz10_5 : w5.cell? ⟨gb116, 5, none⟩ = some (.int .u32 a1_5) := (blk_cell BK116.out 5).trans rfl; have hcz10_6 : w5.cell? ⟨gb116, 6, none⟩ = some (.int .u32 a1_6) := (blk_cell BK116.out 6).trans rfl; have hcz10_7 : w5.cell? ⟨gb116, 7, none⟩ = some (.int .u32 a1_7) := (blk_cell BK116.out 7).trans rfl; have hfz10_0 := blk_frozen BK116.out 0; have hfz10_1 := blk_frozen BK116.out 1; have hfz10_2 := blk_frozen BK116.out 2; have hfz10_3 := blk_frozen BK116.out 3; have hfz10_4 := blk_frozen BK116.out 4; have hfz10_5 := blk_frozen BK116.out 5; have hfz10_6 := blk_frozen BK116.out 6; have hfz10_7 := blk_frozen BK116.out 7; have hcz11_0 : w5.cell? ⟨gb117, 0, none⟩ = some (.int .u32 0) := (blk_cell BK117.out 0).trans rfl; have hcz11_1 : w5.cell? ⟨gb117, 1, none⟩ = some (.int .u32 0) := (blk_cell BK117.out 1).trans rfl; have hcz11_2 : w5.cell? ⟨gb117, 2, none⟩ = some (.int .u32 0) := (blk_cell BK117.out 2).trans rfl; have hcz11_3 : w5.cell? ⟨gb117, 3, none⟩ = some (.int .u32 0) := (blk_cell BK117.out 3).trans rfl; have hcz11_4 : w5.cell? ⟨gb117, 4, none⟩ = some (.int .u32 0) := (blk_cell BK117.out 4).trans rfl; have hcz11_5 : w5.cell? ⟨gb117, 5, none⟩ = some (.int .u32 0) := (blk_cell BK117.out 5).trans rfl; have hcz11_6 : w5.cell? ⟨gb117, 6, none⟩ = some (.int .u32 0) := (blk_cell BK117.out 6).trans rfl; have hcz11_7 : w5.cell? ⟨gb117, 7, none⟩ = some (.int .u32 0) := (blk_cell BK117.out 7).trans rfl; have hfz11_0 := blk_frozen BK117.out 0; have hfz11_1 := blk_frozen BK117.out 1; have hfz11_2 := blk_frozen BK117.out 2; have hfz11_3 := blk_frozen BK117.out 3; have hfz11_4 := blk_frozen BK117.out 4; have hfz11_5 := blk_frozen BK117.out 5; have hfz11_6 := blk_frozen BK117.out 6; have hfz11_7 := blk_frozen BK117.out 7))
  refine bodyPost_ret (results_cell_row rfl _ _ gb117 96 #[.int .u32 ((a0_0 + a1_0) % 4294967296), .int .u32 ((a0_1 + a1_1) % 4294967296), .int .u32 ((a0_2 + a1_2) % 4294967296), .int .u32 ((a0_3 + a1_3) % 4294967296), .int .u32 ((a0_4 + a1_4) % 4294967296), .int .u32 ((a0_5 + a1_5) % 4294967296), .int .u32 ((a0_6 + a1_6) % 4294967296), .int .u32 ((a0_7 + a1_7) % 4294967296)] (0, 0) _ rfl (by (with_reducible repeat (first | refine blk_drewN ?_ _ | refine blk_drew ?_ | refine blk_alloc ?_ _)); refine blk_put (cs := #[.int .u32 ((a0_0 + a1_0) % 4294967296), .int .u32 ((a0_1 + a1_1) % 4294967296), .int .u32 ((a0_2 + a1_2) % 4294967296), .int .u32 ((a0_3 + a1_3) % 4294967296), .int .u32 ((a0_4 + a1_4) % 4294967296), .int .u32 ((a0_5 + a1_5) % 4294967296), .int .u32 ((a0_6 + a1_6) % 4294967296), .int .u32 0]) ?_ 7 _ rfl; (with_reducible repeat (first | refine blk_drewN ?_ _ | refine blk_drew ?_ | refine blk_alloc ?_ _)); refine blk_put (cs := #[.int .u32 ((a0_0 + a1_0) % 4294967296), .int .u32 ((a0_1 + a1_1) % 4294967296), .int .u32 ((a0_2 + a1_2) % 4294967296), .int .u32 ((a0_3 + a1_3) % 4294967296), .int .u32 ((a0_4 + a1_4) % 4294967296), .int .u32 ((a0_5 + a1_5) % 4294967296), .int .u32 0, .int .u32 0]) ?_ 6 _ rfl; (with_reducible repeat (first | refine blk_drewN ?_ _ | refine blk_drew ?_ | refine blk_alloc ?_ _)); refine blk_put (cs := #[.int .u32 ((a0_0 + a1_0) % 4294967296), .int .u32 ((a0_1 + a1_1) % 4294967296), .int .u32 ((a0_2 + a1_2) % 4294967296), .int .u32 ((a0_3 + a1_3) % 4294967296), .int .u32 ((a0_4 + a1_4) % 4294967296), .int .u32 0, .int .u32 0, .int .u32 0]) ?_ 5 _ rfl; (with_reducible repeat (first | refine blk_drewN ?_ _ | refine blk_drew ?_ | refine blk_alloc ?_ _)); refine blk_put (cs := #[.int .u32 ((a0_0 + a1_0) % 4294967296), .int .u32 ((a0_1 + a1_1) % 4294967296), .int .u32 ((a0_2 + a1_2) % 4294967296), .int .u32 ((a0_3 + a1_3) % 4294967296), .int .u32 0, .int .u32 0, .int .u32 0, .int .u32 0]) ?_ 4 _ rfl; (with_reducible repeat (first | refine blk_drewN ?_ _ | refine blk_drew ?_ | refine blk_alloc ?_ _)); refine blk_put (cs := #[.int .u32 ((a0_0 + a1_0) % 4294967296), .int .u32 ((a0_1 + a1_1) % 4294967296), .int .u32 ((a0_2 + a1_2) % 4294967296), .int .u32 0, .int .u32 0, .int .u32 0, .int .u32 0, .int .u32 0]) ?_ 3 _ rfl; (with_reducible repeat (first | refine blk_drewN ?_ _ | refine blk_drew ?_ | refine blk_alloc ?_ _)); refine blk_put (cs := #[.int .u32 ((a0_0 + a1_0) % 4294967296), .int .u32 ((a0_1 + a1_1) % 4294967296), .int .u32 0, .int .u32 0, .int .u32 0, .int .u32 0, .int .u32 0, .int .u32 0]) ?_ 2 _ rfl; (with_reducible repeat (first | refine blk_drewN ?_ _ | refine blk_drew ?_ | refine blk_alloc ?_ _)); refine blk_put (cs := #[.int .u32 ((a0_0 + a1_0) % 4294967296), .int .u32 0, .int .u32 0, .int .u32 0, .int .u32 0, .int .u32 0, .int .u32 0, .int .u32 0]) ?_ 1 _ rfl; (with_reducible repeat (first | refine blk_drewN ?_ _ | refine blk_drew ?_ | refine blk_alloc ?_ _)); refine blk_put (cs := #[.int .u32 0, .int .u32 0, .int .u32 0, .int .u32 0, .int .u32 0, .int .u32 0, .int .u32 0, .int .u32 0]) ?_ 0 _ rfl; (with_reducible repeat (first | refine blk_drewN ?_ _ | refine blk_drew ?_ | refine blk_alloc ?_ _)); exact BK117.out) Tryd.underlying96 rfl (by kernel_rfl)) rfl ?_
  exact ⟨by first | rfl | (simp [errW_none, errW_some] <;> rfl) | (simp [*, errW_none, errW_some] <;> rfl), by repeat (first | (with_reducible first | exact HB.out | apply below_alloc | apply pw_below_drewN | apply below_drew1 | refine below_set ?_ GE115.out | refine below_set ?_ GE116.out | refine below_set ?_ GE117.out) | exact HB.out)⟩

/-! ### sum_begin: function 50 -/
def sum_begin.f  : Option (Int × Int × Int × Int × Int × Int × Int × Int) := some (1779033703, 3144134277, 1013904242, 2773480762, 1359893119, 2600822924, 528734635, 1541459225)
set_option maxHeartbeats 8000000 in
set_option maxRecDepth 100000 in
theorem sum_begin.calls  (r1 : Int) (r2 : Int) (r3 : Int) (r4 : Int) (r5 : Int) (r6 : Int) (r7 : Int) (r8 : Int) (w : World) (h : sum_begin.f  = some (r1, r2, r3, r4, r5, r6, r7, r8)) :
    Calls Tryd.prog 50 #[] w fun e w' => e = .returned (.agg #[.int .u32 r1, .int .u32 r2, .int .u32 r3, .int .u32 r4, .int .u32 r5, .int .u32 r6, .int .u32 r7, .int .u32 r8]) ∧ Below w.heap.size w w' := by
  have hu96 := Tryd.underlying96
  have HB := Aside0.mk (Below.refl w.heap.size w)
  have H : (some (1779033703, 3144134277, 1013904242, 2773480762, 1359893119, 2600822924, 528734635, 1541459225)) = some (r1, r2, r3, r4, r5, r6, r7, r8) := h
  clear h
  simp only [Option.some.injEq, Prod.mk.injEq] at H
  obtain ⟨rfl, rfl, rfl, rfl, rfl, rfl, rfl, rfl⟩ := H
  go_enter Tryd.func50, Tryd.ntmps50
  go_wp2_with (first | ((with_reducible refine gate_dst (N := 0) rfl ?_); refine box_event ?hg (N := 0) ?hd (cs := #[.int .u32 0, .int .u32 0, .int .u32 0, .int .u32 0, .int .u32 0, .int .u32 0, .int .u32 0, .int .u32 0]) (t := 96) ?hr ?_; (case hd => rfl); (case hg => rfl); (case hr => first | (go_simp; done) | (go_simp; rfl)); intro gb118 hg w1 hbox hb; have n0_ := Aside0.mk (below_step (by repeat (first | (with_reducible first | exact HB.out | apply below_alloc | apply pw_below_drewN | apply below_drew1) | exact HB.out)) hb); have n1_ := Aside0.mk (hbox); have n2_ := Aside0.mk ((by rw [hg]; exact (below_size (by repeat (first | (with_reducible first | exact HB.out | apply below_alloc | apply pw_below_drewN | apply below_drew1) | exact HB.out))) : w.heap.size ≤ gb118)); have n3_ := Aside0.mk ((by rw [hg]; exact (below_size (by repeat (first | (with_reducible first | exact HB.out | apply below_alloc | apply pw_below_drewN | apply below_drew1) | exact HB.out))) : w.heap.size ≤ gb118)); clear HB; have HB := n0_; have BK118 := n1_; have GW118 := n2_; have GE118 := n3_; clear n0_ n1_ n2_ n3_; clear hb hbox hg; have hcz2_0 : w1.cell? ⟨gb118, 0, none⟩ = some (.int .u32 0) := (blk_cell BK118.out 0).trans rfl; have hcz2_1 : w1.cell? ⟨gb118, 1, none⟩ = some (.int .u32 0) := (blk_cell BK118.out 1).trans rfl; have hcz2_2 : w1.cell? ⟨gb118, 2, none⟩ = some (.int .u32 0) := (blk_cell BK118.out 2).trans rfl; have hcz2_3 : w1.cell? ⟨gb118, 3, none⟩ = some (.int .u32 0) := (blk_cell BK118.out 3).trans rfl; have hcz2_4 : w1.cell? ⟨gb118, 4, none⟩ = some (.int .u32 0) := (blk_cell BK118.out 4).trans rfl; have hcz2_5 : w1.cell? ⟨gb118, 5, none⟩ = some (.int .u32 0) := (blk_cell BK118.out 5).trans rfl; have hcz2_6 : w1.cell? ⟨gb118, 6, none⟩ = some (.int .u32 0) := (blk_cell BK118.out 6).trans rfl; have hcz2_7 : w1.cell? ⟨gb118, 7, none⟩ = some (.int .u32 0) := (blk_cell BK118.out 7).trans rfl; have hfz2_0 := blk_frozen BK118.out 0; have hfz2_1 := blk_frozen BK118.out 1; have hfz2_2 := blk_frozen BK118.out 2; have hfz2_3 := blk_frozen BK118.out 3; have hfz2_4 := blk_frozen BK118.out 4; have hfz2_5 := blk_frozen BK118.out 5; have hfz2_6 := blk_frozen BK118.out 6; have hfz2_7 := blk_frozen BK118.out 7))
  refine bodyPost_ret (results_cell_row rfl _ _ gb118 96 #[.int .u32 1779033703, .int .u32 3144134277, .int .u32 1013904242, .int .u32 2773480762, .int .u32 1359893119, .int .u32 2600822924, .int .u32 528734635, .int .u32 1541459225] (0, 0) _ rfl (by (with_reducible repeat (first | refine blk_drewN ?_ _ | refine blk_drew ?_ | refine blk_alloc ?_ _)); refine blk_put (cs := #[.int .u32 1779033703, .int .u32 3144134277, .int .u32 1013904242, .int .u32 2773480762, .int .u32 1359893119, .int .u32 2600822924, .int .u32 528734635, .int .u32 0]) ?_ 7 _ rfl; (with_reducible repeat (first | refine blk_drewN ?_ _ | refine blk_drew ?_ | refine blk_alloc ?_ _)); refine blk_put (cs := #[.int .u32 1779033703, .int .u32 3144134277, .int .u32 1013904242, .int .u32 2773480762, .int .u32 1359893119, .int .u32 2600822924, .int .u32 0, .int .u32 0]) ?_ 6 _ rfl; (with_reducible repeat (first | refine blk_drewN ?_ _ | refine blk_drew ?_ | refine blk_alloc ?_ _)); refine blk_put (cs := #[.int .u32 1779033703, .int .u32 3144134277, .int .u32 1013904242, .int .u32 2773480762, .int .u32 1359893119, .int .u32 0, .int .u32 0, .int .u32 0]) ?_ 5 _ rfl; (with_reducible repeat (first | refine blk_drewN ?_ _ | refine blk_drew ?_ | refine blk_alloc ?_ _)); refine blk_put (cs := #[.int .u32 1779033703, .int .u32 3144134277, .int .u32 1013904242, .int .u32 2773480762, .int .u32 0, .int .u32 0, .int .u32 0, .int .u32 0]) ?_ 4 _ rfl; (with_reducible repeat (first | refine blk_drewN ?_ _ | refine blk_drew ?_ | refine blk_alloc ?_ _)); refine blk_put (cs := #[.int .u32 1779033703, .int .u32 3144134277, .int .u32 1013904242, .int .u32 0, .int .u32 0, .int .u32 0, .int .u32 0, .int .u32 0]) ?_ 3 _ rfl; (with_reducible repeat (first | refine blk_drewN ?_ _ | refine blk_drew ?_ | refine blk_alloc ?_ _)); refine blk_put (cs := #[.int .u32 1779033703, .int .u32 3144134277, .int .u32 0, .int .u32 0, .int .u32 0, .int .u32 0, .int .u32 0, .int .u32 0]) ?_ 2 _ rfl; (with_reducible repeat (first | refine blk_drewN ?_ _ | refine blk_drew ?_ | refine blk_alloc ?_ _)); refine blk_put (cs := #[.int .u32 1779033703, .int .u32 0, .int .u32 0, .int .u32 0, .int .u32 0, .int .u32 0, .int .u32 0, .int .u32 0]) ?_ 1 _ rfl; (with_reducible repeat (first | refine blk_drewN ?_ _ | refine blk_drew ?_ | refine blk_alloc ?_ _)); refine blk_put (cs := #[.int .u32 0, .int .u32 0, .int .u32 0, .int .u32 0, .int .u32 0, .int .u32 0, .int .u32 0, .int .u32 0]) ?_ 0 _ rfl; (with_reducible repeat (first | refine blk_drewN ?_ _ | refine blk_drew ?_ | refine blk_alloc ?_ _)); exact BK118.out) Tryd.underlying96 rfl (by kernel_rfl)) rfl ?_
  exact ⟨by first | rfl | (simp [errW_none, errW_some] <;> rfl) | (simp [*, errW_none, errW_some] <;> rfl), by repeat (first | (with_reducible first | exact HB.out | apply below_alloc | apply pw_below_drewN | apply below_drew1 | refine below_set ?_ GE118.out) | exact HB.out)⟩

/-! ### sum_number: function 70 -/
def sum_number.l0 : Nat → Int → List Int → Int → Int → Option (Int)
  | 0, _, _, _, _ => none
  | k + 1, x3, x7, x8, x9 => if x9 < x8 then (if 0 ≤ x9 then (if x9 < (x7.length : Int) then (sum_number.l0 k (Go.bits .or .u32 ((x3 * 256) % 4294967296) ((rd x7 x9) % 4294967296)) x7 x8 (wrap64 (x9 + 1))) else (none)) else (none)) else (some x3)
def sum_number.f (k : Nat) (l0 : List Int) : Option (Int) := if 4 ≤ (l0.length : Int) then (sum_number.l0 k 0 (l0.take 4) ((l0.take 4).length : Int) 0) else (none)
theorem sum_number.mono_l : ∀ k, (∀ y0 y1 y2 y3, LeO (sum_number.l0 k y0 y1 y2 y3) (sum_number.l0 (k + 1) y0 y1 y2 y3))
  | 0 => fun _ _ _ _ r h => by simp [sum_number.l0] at h
  | k + 1 => by
    have ih0 := sum_number.mono_l k
    · intro y0 y1 y2 y3
      unfold sum_number.l0
      repeat' first
      | (with_reducible exact ih0 _ _ _ _)
      | (with_reducible exact LeO.refl _)
      | (with_reducible exact LeO.none _)
      | (with_reducible refine LeO.ite ?_ ?_)
      | (with_reducible refine LeO.bind ?_ (fun _ => ?_))
      | exact ih0 _ _ _ _
      | exact LeO.none _
      | refine LeO.ite ?_ ?_
      | refine LeO.bind ?_ (fun _ => ?_)
theorem sum_number.mono : ∀ a0 k, LeO (sum_number.f k a0) (sum_number.f (k + 1) a0) := by
  intro a0 k
  have ih0 := sum_number.mono_l k
  unfold sum_number.f
  repeat' first
      | (with_reducible exact ih0 _ _ _ _)
      | (with_reducible exact LeO.refl _)
      | (with_reducible exact LeO.none _)
      | (with_reducible refine LeO.ite ?_ ?_)
      | (with_reducible refine LeO.bind ?_ (fun _ => ?_))
      | exact ih0 _ _ _ _
      | exact LeO.none _
      | refine LeO.ite ?_ ?_
      | refine LeO.bind ?_ (fun _ => ?_)
set_option maxHeartbeats 8000000 in
set_option maxRecDepth 100000 in
theorem sum_number.calls (k : Nat) (A0 : Option Addr) (c0 : Nat) (l0 : List Int) (r : Int) (w : World) (hr0 : Kd.C (Kd.int .u8) w A0 l0.length l0) (hc0 : l0.length ≤ c0) (h : sum_number.f k l0 = some r) :
    Calls Tryd.prog 70 #[.slice A0 l0.length c0] w fun e w' => e = .returned (.int .u32 r) ∧ Drawn0 w w' := by
  have HR0 := Aside0.mk hr0
  have HC0 := Aside0.mk hc0
  clear hr0 hc0
  have H : (if 4 ≤ (l0.length : Int) then (sum_number.l0 k 0 (l0.take 4) ((l0.take 4).length : Int) 0) else (none)) = some r := h
  clear h
  by_cases c2 : 4 ≤ (l0.length : Int)
  · rw [if_pos c2] at H
    have c2b0 := eq_true c2
    have c2b1 : decide (4 ≤ (l0.length : Int)) = true := decide_eq_true c2
    clear c2
    have H' := Aside0.mk H
    clear H
    obtain ⟨i03, hi03, _, hsz3, _⟩ := info_parts info5
    obtain ⟨hcut3, hA3, hC3⟩ := print_take_of (P := Tryd.prog) (Value.int .u8) 0 39 5 .i64 Tryd.underlying39 hi03 hsz3 A0 c0 l0 4 (by omega) (of_decide_eq_true (by first | (with_reducible assumption) | assumption)) HC0.out
    have HR119 := Aside0.mk (Kd.C_of_reads (h1 := fun _ => rfl) (hA3 _ (Kd.reads_of_C HR0.out)))
    have HC119 := Aside0.mk hC3
    clear hA3 hC3 hi03 hsz3
    have hcut_ : ∀ W : World, (Instr.slice 39 (.slice A0 l0.length c0) none (some (.int .i64 4)) none).run Tryd.prog W = .ok (.slice A0 (l0.take 4).length c0) W := hcut3
    have HR_ : Aside0 (Kd.C (Kd.scalar (Value.int .u8) fun _ => rfl) w A0 (l0.take 4).length (l0.take 4)) := HR119
    clear hcut3 HR119 HC119
    generalize l0.take 4 = T_ at hcut_ HR_ H'
    have HR119 := HR_
    clear HR_
    go_enter Tryd.func70, Tryd.ntmps70
    go_wp2
    go_loopg [3, 9] k (fun kq v3 v9 w' => ∃ (x3_1 : Int) (x9_1 : Int), v3 = .int .u32 x3_1 ∧ v9 = .int .i64 x9_1 ∧ Aside0 (sum_number.l0 kq x3_1 T_ (T_.length : Int) x9_1 = some r) ∧ Aside0 (kq ≤ k) ∧ Drawn0 w w')
    case atStart => exact ⟨(0), (0), (by first | rfl | (simp; done) | (simp [*]; done)), (by first | rfl | (simp; done) | (simp [*]; done)), H', ⟨Nat.le_refl _⟩, by repeat (first | exact Drawn0.refl _ | apply Drawn0.step)⟩
    case round =>
      clear H'
      try clear c2
      try clear c2b0
      try clear c2b1
      try clear p2
      obtain ⟨x3_1, x9_1, rfl, rfl, HA, HK1, ⟨m1, rfl⟩⟩ := hrel
      cases gk with
      | zero => exact absurd HA.out (by simp [sum_number.l0])
      | succ k1 =>
        have H := HA.out
        clear HA
        simp only [sum_number.l0] at H
        by_cases c4 : x9_1 < (T_.length : Int)
        · rw [if_pos c4] at H
          have c4b0 : decide (x9_1 < (T_.length : Int)) = true := decide_eq_true c4
          clear c4
          by_cases c5 : 0 ≤ x9_1
          · rw [if_pos c5] at H
            have c5b0 : decide (0 ≤ x9_1) = true := decide_eq_true c5
            clear c5
            by_cases c6 : x9_1 < (T_.length : Int)
            · rw [if_pos c6] at H
              have c6b0 : decide (x9_1 < (T_.length : Int)) = true := decide_eq_true c6
              clear c6
              have H' := Aside0.mk H
              clear H
              have p120 : 0 ≤ (x9_1 : Int) := of_decide_eq_true (by first | (with_reducible assumption) | assumption)
              have q120 : x9_1 < (T_.length : Int) := of_decide_eq_true (by first | (with_reducible assumption) | assumption)
              obtain ⟨ad120, e120, hx120_0⟩ := Kd.at_int HR119.out x9_1 p120 q120
              cases e120
              replace p120 := eq_true p120
              replace q120 := eq_true q120
              go_wp2
              go_roundg k1
              case measure => have := HK1.out; omega
              case rel => exact ⟨(Go.bits .or .u32 ((x3_1 * 256) % 4294967296) ((rd T_ x9_1) % 4294967296)), (wrap64 (x9_1 + 1)), (by first | rfl | (simp; done) | (simp [*]; done)), (by first | rfl | (simp; done) | (simp [*]; done)), H', ⟨by have := HK1.out; omega⟩, by repeat (first | exact Drawn0.refl _ | apply Drawn0.step)⟩
            · rw [if_neg c6] at H
              exact absurd H (by simp)
          · rw [if_neg c5] at H
            exact absurd H (by simp)
        · rw [if_neg c4] at H
          have c4b0 : decide (x9_1 < (T_.length : Int)) = false := decide_eq_false c4
          clear c4
          obtain rfl := Option.some.inj H
          go_wp2
          go_ret
          exact ⟨by first | rfl | (simp; done) | (simp [*]; done), by repeat (first | exact Drawn0.refl _ | apply Drawn0.step)⟩
  · rw [if_neg c2] at H
    exact absurd H (by simp)

/-! ### geyserref01_turned: function 33 -/
def geyserref01_turned.f (a0 : Int) (a1 : Int) : Option (Int) := if 0 ≤ a1 then (if 0 ≤ (IntKind.u64.wrap (32 - a1)) then (some (Go.bits .and .u64 (Go.bits .or .u64 (shr .u64 a0 a1) (shl .u64 a0 (IntKind.u64.wrap (32 - a1)))) 4294967295)) else (none)) else (none)
set_option maxHeartbeats 8000000 in
set_option maxRecDepth 100000 in
theorem geyserref01_turned.calls (a0 : Int) (a1 : Int) (r : Int) (w : World) (h : geyserref01_turned.f a0 a1 = some r) :
    Calls Tryd.prog 33 #[.int .u64 a0, .int .u64 a1] w fun e w' => e = .returned (.int .u64 r) ∧ Drawn0 w w' := by
  have H : (if 0 ≤ a1 then (if 0 ≤ (IntKind.u64.wrap (32 - a1)) then (some (Go.bits .and .u64 (Go.bits .or .u64 (shr .u64 a0 a1) (shl .u64 a0 (IntKind.u64.wrap (32 - a1)))) 4294967295)) else (none)) else (none)) = some r := h
  clear h
  by_cases c3 : 0 ≤ a1
  · rw [if_pos c3] at H
    have c3b0 := eq_true c3
    have c3b1 : decide (0 ≤ a1) = true := decide_eq_true c3
    clear c3
    obtain ⟨ji4, hji4⟩ : ∃ j_ : Int, (shr .u64 a0 a1) = j_ := ⟨_, rfl⟩
    replace H : (if 0 ≤ (IntKind.u64.wrap (32 - a1)) then (some (Go.bits .and .u64 (Go.bits .or .u64 (ji4) (shl .u64 a0 (IntKind.u64.wrap (32 - a1)))) 4294967295)) else (none)) = some r := by first | (rw [hji4] at H; exact H) | (simp only [hji4] at H ⊢; exact H)
    have hji4_ : (a0 / 2 ^ min a1.toNat 64) = ji4 := hji4
    have hji4z : a1 ≤ 64 → (a0 / 2 ^ a1.toNat) = ji4 := shr_small hji4
    obtain ⟨ji5, hji5⟩ : ∃ j_ : Int, (IntKind.u64.wrap (32 - a1)) = j_ := ⟨_, rfl⟩
    replace H : (if 0 ≤ (ji5) then (some (Go.bits .and .u64 (Go.bits .or .u64 (ji4) (shl .u64 a0 (ji5))) 4294967295)) else (none)) = some r := by first | (rw [hji5] at H; exact H) | (simp only [hji5] at H ⊢; exact H)
    by_cases c6 : 0 ≤ (ji5)
    · rw [if_pos c6] at H
      have c6b0 := eq_true c6
      have c6b1 : decide (0 ≤ (ji5)) = true := decide_eq_true c6
      clear c6
      obtain ⟨ji7, hji7⟩ : ∃ j_ : Int, (shl .u64 a0 (ji5)) = j_ := ⟨_, rfl⟩
      replace H : (some (Go.bits .and .u64 (Go.bits .or .u64 (ji4) (ji7)) 4294967295)) = some r := by first | (rw [hji7] at H; exact H) | (simp only [hji7] at H ⊢; exact H)
      have hji7_ : (IntKind.u64.wrap (a0 * 2 ^ min (ji5).toNat 64)) = ji7 := hji7
      have hji7z : (ji5) ≤ 64 → (IntKind.u64.wrap (a0 * 2 ^ (ji5).toNat)) = ji7 := shl_small hji7
      obtain rfl := Option.some.inj H
      go_enter Tryd.func33, Tryd.ntmps33
      go_wp2
      go_ret
      exact ⟨by first | rfl | (simp; done) | (simp only [← hji4, ← hji5, ← hji7] <;> (first | rfl | simp)) | (simp [*]; done), by repeat (first | exact Drawn0.refl _ | apply Drawn0.step)⟩
    · rw [if_neg c6] at H
      exact absurd H (by simp)
  · rw [if_neg c3] at H
    exact absurd H (by simp)

/-! ### geyserref01_Number: function 32 -/
def geyserref01_Number.l0 : Nat → List Int → Int → Int → Int → Option (Int)
  | 0, _, _, _, _ => none
  | k + 1, x0, x3, x6, x7 => if x7 < x6 then (if 0 ≤ x7 then (if x7 < (x0.length : Int) then (geyserref01_Number.l0 k x0 (IntKind.u64.wrap ((IntKind.u64.wrap (x3 * 256)) + (IntKind.u64.wrap (rd x0 x7)))) x6 (wrap64 (x7 + 1))) else (none)) else (none)) else (some x3)
def geyserref01_Number.f (k : Nat) (l0 : List Int) : Option (Int) := geyserref01_Number.l0 k l0 0 (l0.length : Int) 0
theorem geyserref01_Number.mono_l : ∀ k, (∀ y0 y1 y2 y3, LeO (geyserref01_Number.l0 k y0 y1 y2 y3) (geyserref01_Number.l0 (k + 1) y0 y1 y2 y3))
  | 0 => fun _ _ _ _ r h => by simp [geyserref01_Number.l0] at h
  | k + 1 => by
    have ih0 := geyserref01_Number.mono_l k
    · intro y0 y1 y2 y3
      unfold geyserref01_Number.l0
      repeat' first
      | (with_reducible exact ih0 _ _ _ _)
      | (with_reducible exact LeO.refl _)
      | (with_reducible exact LeO.none _)
      | (with_reducible refine LeO.ite ?_ ?_)
      | (with_reducible refine LeO.bind ?_ (fun _ => ?_))
      | exact ih0 _ _ _ _
      | exact LeO.none _
      | refine LeO.ite ?_ ?_
      | refine LeO.bind ?_ (fun _ => ?_)
theorem geyserref01_Number.mono : ∀ a0 k, LeO (geyserref01_Number.f k a0) (geyserref01_Number.f (k + 1) a0) := by
  intro a0 k
  have ih0 := geyserref01_Number.mono_l k
  unfold geyserref01_Number.f
  repeat' first
      | (with_reducible exact ih0 _ _ _ _)
      | (with_reducible exact LeO.refl _)
      | (with_reducible exact LeO.none _)
      | (with_reducible refine LeO.ite ?_ ?_)
      | (with_reducible refine LeO.bind ?_ (fun _ => ?_))
      | exact ih0 _ _ _ _
      | exact LeO.none _
      | refine LeO.ite ?_ ?_
      | refine LeO.bind ?_ (fun _ => ?_)
set_option maxHeartbeats 8000000 in
set_option maxRecDepth 100000 in
theorem geyserref01_Number.calls (k : Nat) (A0 : Option Addr) (c0 : Nat) (l0 : List Int) (r : Int) (w : World) (hr0 : Kd.C (Kd.int .u8) w A0 l0.length l0) (hc0 : l0.length ≤ c0) (h : geyserref01_Number.f k l0 = some r) :
    Calls Tryd.prog 32 #[.slice A0 l0.length c0] w fun e w' => e = .returned (.int .u64 r) ∧ Drawn0 w w' := by
  have HR0 := Aside0.mk hr0
  have HC0 := Aside0.mk hc0
  clear hr0 hc0
  have H : (geyserref01_Number.l0 k l0 0 (l0.length : Int) 0) = some r := h
  clear h
  have H' := Aside0.mk H
  clear H
  go_enter Tryd.func32, Tryd.ntmps32
  go_wp2
  go_loopg [3, 7] k (fun kq v3 v7 w' => ∃ (x3_1 : Int) (x7_1 : Int), v3 = .int .u64 x3_1 ∧ v7 = .int .i64 x7_1 ∧ Aside0 (geyserref01_Number.l0 kq l0 x3_1 (l0.length : Int) x7_1 = some r) ∧ Aside0 (kq ≤ k) ∧ Drawn0 w w')
  case atStart => exact ⟨(0), (0), (by first | rfl | (simp; done) | (simp [*]; done)), (by first | rfl | (simp; done) | (simp [*]; done)), H', ⟨Nat.le_refl _⟩, by repeat (first | exact Drawn0.refl _ | apply Drawn0.step)⟩
  case round =>
    clear H'
    obtain ⟨x3_1, x7_1, rfl, rfl, HA, HK1, ⟨m1, rfl⟩⟩ := hrel
    cases gk with
    | zero => exact absurd HA.out (by simp [geyserref01_Number.l0])
    | succ k1 =>
      have H := HA.out
      clear HA
      simp only [geyserref01_Number.l0] at H
      by_cases c2 : x7_1 < (l0.length : Int)
      · rw [if_pos c2] at H
        have c2b0 : decide (x7_1 < (l0.length : Int)) = true := decide_eq_true c2
        clear c2
        by_cases c3 : 0 ≤ x7_1
        · rw [if_pos c3] at H
          have c3b0 : decide (0 ≤ x7_1) = true := decide_eq_true c3
          clear c3
          by_cases c4 : x7_1 < (l0.length : Int)
          · rw [if_pos c4] at H
            have c4b0 : decide (x7_1 < (l0.length : Int)) = true := decide_eq_true c4
            clear c4
            have H' := Aside0.mk H
            clear H
            have p121 : 0 ≤ (x7_1 : Int) := of_decide_eq_true (by first | (with_reducible assumption) | assumption)
            have q121 : x7_1 < (l0.length : Int) := of_decide_eq_true (by first | (with_reducible assumption) | assumption)
            obtain ⟨ad121, e121, hx121_0⟩ := Kd.at_int HR0.out x7_1 p121 q121
            cases e121
            replace p121 := eq_true p121
            replace q121 := eq_true q121
            go_wp2
            go_roundg k1
            case measure => have := HK1.out; omega
            case rel => exact ⟨(IntKind.u64.wrap ((IntKind.u64.wrap (x3_1 * 256)) + (IntKind.u64.wrap (rd l0 x7_1)))), (wrap64 (x7_1 + 1)), (by first | rfl | (simp; done) | (simp [*]; done)), (by first | rfl | (simp; done) | (simp [*]; done)), H', ⟨by have := HK1.out; omega⟩, by repeat (first | exact Drawn0.refl _ | apply Drawn0.step)⟩
          · rw [if_neg c4] at H
            exact absurd H (by simp)
        · rw [if_neg c3] at H
          exact absurd H (by simp)
      · rw [if_neg c2] at H
        have c2b0 : decide (x7_1 < (l0.length : Int)) = false := decide_eq_false c2
        clear c2
        obtain rfl := Option.some.inj H
        go_wp2
        go_ret
        exact ⟨by first | rfl | (simp; done) | (simp [*]; done), by repeat (first | exact Drawn0.refl _ | apply Drawn0.step)⟩

/-! ### geyserref01_Wide: function 31 -/
def geyserref01_Wide.l0 : Nat → Int → List Int → Int → Option (List Int)
  | 0, _, _, _ => none
  | k + 1, x0, x5, x6 => if x6 ≥ 0 then (if 0 ≤ x6 then (if x6 < (x5.length : Int) then (geyserref01_Wide.l0 k (IntKind.u64.wrap (Int.tdiv x0 256)) (x5.set (x6 : Int).toNat ((Int.tmod x0 256) % 256)) (wrap64 (x6 - 1))) else (none)) else (none)) else (some x5)
def geyserref01_Wide.f (k : Nat) (a0 : Int) (a1 : Int) : Option (List Int) := if 0 ≤ a1 then (if (a1 : Int).toNat ≤ 281474976710656 then (geyserref01_Wide.l0 k a0 (List.replicate (a1 : Int).toNat 0) (wrap64 (a1 - 1))) else (none)) else (none)
theorem geyserref01_Wide.mono_l : ∀ k, (∀ y0 y1 y2, LeO (geyserref01_Wide.l0 k y0 y1 y2) (geyserref01_Wide.l0 (k + 1) y0 y1 y2))
  | 0 => fun _ _ _ r h => by simp [geyserref01_Wide.l0] at h
  | k + 1 => by
    have ih0 := geyserref01_Wide.mono_l k
    · intro y0 y1 y2
      unfold geyserref01_Wide.l0
      repeat' first
      | (with_reducible exact ih0 _ _ _)
      | (with_reducible exact LeO.refl _)
      | (with_reducible exact LeO.none _)
      | (with_reducible refine LeO.ite ?_ ?_)
      | (with_reducible refine LeO.bind ?_ (fun _ => ?_))
      | exact ih0 _ _ _
      | exact LeO.none _
      | refine LeO.ite ?_ ?_
      | refine LeO.bind ?_ (fun _ => ?_)
theorem geyserref01_Wide.mono : ∀ a0 a1 k, LeO (geyserref01_Wide.f k a0 a1) (geyserref01_Wide.f (k + 1) a0 a1) := by
  intro a0 a1 k
  have ih0 := geyserref01_Wide.mono_l k
  unfold geyserref01_Wide.f
  repeat' first
      | (with_reducible exact ih0 _ _ _)
      | (with_reducible exact LeO.refl _)
      | (with_reducible exact LeO.none _)
      | (with_reducible refine LeO.ite ?_ ?_)
      | (with_reducible refine LeO.bind ?_ (fun _ => ?_))
      | exact ih0 _ _ _
      | exact LeO.none _
      | refine LeO.ite ?_ ?_
      | refine LeO.bind ?_ (fun _ => ?_)
set_option maxHeartbeats 8000000 in
set_option maxRecDepth 100000 in
theorem geyserref01_Wide.calls (k : Nat) (a0 : Int) (a1 : Int) (r : List Int) (w : World) (h : geyserref01_Wide.f k a0 a1 = some r) :
    Calls Tryd.prog 31 #[.int .u64 a0, .int .i64 a1] w fun e w' => ∃ v0_ : Value, e = .returned (v0_) ∧ Kd.R (Kd.int .u8) 5 w' w.heap.size (fun _ => True) v0_ r ∧ Below w.heap.size w w' := by
  have HB := Aside0.mk (Below.refl w.heap.size w)
  have H : (if 0 ≤ a1 then (if (a1 : Int).toNat ≤ 281474976710656 then (geyserref01_Wide.l0 k a0 (List.replicate (a1 : Int).toNat 0) (wrap64 (a1 - 1))) else (none)) else (none)) = some r := h
  clear h
  by_cases c3 : 0 ≤ a1
  · rw [if_pos c3] at H
    have c3b0 := eq_true c3
    have c3b1 : decide (0 ≤ a1) = true := decide_eq_true c3
    clear c3
    by_cases c4 : (a1 : Int).toNat ≤ 281474976710656
    · rw [if_pos c4] at H
      have c4b0 := eq_true c4
      have c4b1 : decide ((a1 : Int).toNat ≤ 281474976710656) = true := decide_eq_true c4
      clear c4
      obtain ⟨y122, hy122⟩ : ∃ y_ : List Int, y_ = (List.replicate (a1 : Int).toNat 0) := ⟨_, rfl⟩
      replace H : (geyserref01_Wide.l0 k a0 y122 (wrap64 (a1 - 1))) = some r := by first | (rw [hy122]; with_reducible exact H) | (have H2_ := (Option.bind_some _ _).symm.trans H; rw [hy122]; with_reducible exact H2_) | (have H2_ := (Option.bind_some _ _).symm.trans H; with_reducible exact H2_) | with_reducible exact H | (rw [hy122]; exact H) | exact H
      have Ny122 := Aside0.mk hy122
      clear hy122
      have H' := Aside0.mk H
      clear H
      go_enter Tryd.func31, Tryd.ntmps31
      go_wp2_with (first | ((with_reducible refine gate_dst (N := 8) rfl ?_); refine Kd.R_make (Kd.int .u8) _ 5 rfl (N := 8) rfl 39 _ _ rfl a1 rfl rfl Tryd.underlying39 (.int .u8 0) 1 info5 rfl (by decide) (by omega) 0 (ok := fun _ => True) (okp := fun _ => True) rfl (fun _ hk => hk) trivial (of_decide_eq_true (by first | (with_reducible assumption) | assumption)) (Nat.le_trans (Nat.mul_le_mul_right _ (of_decide_eq_true (by first | (with_reducible assumption) | assumption) : a1.toNat ≤ 281474976710656)) (by omega)) (Below.refl _ _) (Nat.le_refl _) ?_; intro v123 w5 ho6 hb hg_ hnew_; clear hg_ hnew_; (first | rw [← Ny122.out] at ho6 | (simp only [Int.reduceToNat] at ho6; rw [← Ny122.out] at ho6)); have n0_ := Aside0.mk (Kd.R_lower ho6 (below_size (by repeat (first | (with_reducible first | exact HB.out | apply below_alloc | apply pw_below_drewN | apply below_drew1) | exact HB.out)))); have n1_ := Aside0.mk (below_step (by repeat (first | (with_reducible first | exact HB.out | apply below_alloc | apply pw_below_drewN | apply below_drew1) | exact HB.out)) hb); clear HB; have HO124 := n0_; have HB := n1_; clear n0_ n1_; clear hb ho6))
      go_loopg [0, 6] k (fun kq v0 v6 w' => ∃ (x0_1 : Int) (x5_1 : List Int) (x6_1 : Int), v0 = .int .u64 x0_1 ∧ v6 = .int .i64 x6_1 ∧ Aside0 (geyserref01_Wide.l0 kq x0_1 x5_1 x6_1 = some r) ∧ Aside0 (kq ≤ k) ∧ Aside0 (Kd.R (Kd.int .u8) 5 w' w.heap.size (fun _ => True) v123 x5_1) ∧ Aside0 (Below w.heap.size w w'))
      case atStart => exact ⟨(a0), (y122), (wrap64 (a1 - 1)), (by first | rfl | (simp; done) | (simp [*]; done)), (by first | rfl | (simp; done) | (simp [*]; done)), H', ⟨Nat.le_refl _⟩, ⟨by (with_reducible repeat (first | apply Kd.R_alloc | apply Kd.R_drewN | apply Kd.R_drew)); exact HO124.out⟩, ⟨by repeat (first | (with_reducible first | exact HB.out | apply below_alloc | apply pw_below_drewN | apply below_drew1) | exact HB.out)⟩⟩
      case round =>
        clear H'
        try clear p2
        try clear c3
        try clear c3b0
        try clear c3b1
        try clear c4
        try clear c4b0
        try clear c4b1
        try clear p6
        obtain ⟨x0_1, x5_1, x6_1, rfl, rfl, HA, HK1, HO_5, HB⟩ := hrel
        cases gk with
        | zero => exact absurd HA.out (by simp [geyserref01_Wide.l0])
        | succ k1 =>
          have H := HA.out
          clear HA
          simp only [geyserref01_Wide.l0] at H
          by_cases c7 : x6_1 ≥ 0
          · rw [if_pos c7] at H
            have c7b0 : decide (0 ≤ x6_1) = true := decide_eq_true c7
            clear c7
            by_cases c8 : 0 ≤ x6_1
            · rw [if_pos c8] at H
              have c8b0 : decide (0 ≤ x6_1) = true := decide_eq_true c8
              clear c8
              by_cases c9 : x6_1 < (x5_1.length : Int)
              · rw [if_pos c9] at H
                have c9b0 : decide (x6_1 < (x5_1.length : Int)) = true := decide_eq_true c9
                clear c9
                obtain ⟨y125, hy125⟩ : ∃ y_ : List Int, y_ = (x5_1.set (x6_1 : Int).toNat ((Int.tmod x0_1 256) % 256)) := ⟨_, rfl⟩
                replace H : (geyserref01_Wide.l0 k1 (IntKind.u64.wrap (Int.tdiv x0_1 256)) y125 (wrap64 (x6_1 - 1))) = some r := by first | (rw [hy125]; with_reducible exact H) | (have H2_ := (Option.bind_some _ _).symm.trans H; rw [hy125]; with_reducible exact H2_) | (have H2_ := (Option.bind_some _ _).symm.trans H; with_reducible exact H2_) | with_reducible exact H | (rw [hy125]; exact H) | exact H
                have Ny125 := Aside0.mk hy125
                clear hy125
                have H' := Aside0.mk H
                clear H
                have p10 : 0 ≤ (x6_1 : Int) := of_decide_eq_true (by first | (with_reducible assumption) | assumption)
                have q10 : (x6_1 : Int) < ((x5_1.length : Int) : Int) := of_decide_eq_true (by first | (with_reducible assumption) | assumption)
                obtain ⟨go10, co10, eo10, gb10, gl10, cl10, HG10⟩ := Kd.R_form HO_5.out (by omega)
                (first | cases eo10 | (injection eo10 with ea_ en_ ec_; (first | subst ea_ | (injection ea_ with ea_; subst ea_)); subst ec_; clear en_))
                have GB10 := Aside0.mk gb10
                have GG10 := Aside0.mk HG10
                clear gb10 gl10 HG10
                obtain ⟨hx10_0, hf10_0⟩ := Kd.R_celln 0 HO_5.out (x6_1 : Int) p10 q10
                replace p10 := eq_true p10
                replace q10 := eq_true q10
                have HP11 := Kd.R_putg HO_5.out (x6_1 : Int) ((Int.tmod x0_1 256) % 256)
                go_wp2_with (first | ((with_reducible refine gate_store (t := 5) (p := 20) rfl ?_); refine store_event (t := 5) (p := 20) (v := ?vo_w12) (w1 := (wr.setCell ⟨go10, (x6_1 : Int).toNat, none⟩ (.int .u8 ((Int.tmod x0_1 256) % 256)))) ?hg ?ho ?hn ?hr ?_; (case ho => rfl); (case hg => rfl); (case hn => rfl); (case hr => first | (go_simp; done) | (go_simp; rfl)); intro w12 hw; have hg : wr.grownBy w12 (some go10) := (by rw [hw]; exact HP11.2); have hp_ : Kd.R (Kd.int .u8) 5 w12 w.heap.size (fun _ => True) (.slice (some ⟨go10, 0, none⟩) x5_1.length co10) y125 := (by rw [hw, Ny125.out]; exact HP11.1); clear HP11; have n0_ := Aside0.mk (hp_); have n1_ := Aside0.mk ((by rw [hw]; exact below_set (HB.out) GB10.out : Below w.heap.size w w12)); clear HO_5; clear HB; have HO_5 := n0_; have HB := n1_; clear n0_ n1_; clear hg hw hp_))
                go_roundg k1
                case measure => have := HK1.out; omega
                case rel => exact ⟨(IntKind.u64.wrap (Int.tdiv x0_1 256)), (y125), (wrap64 (x6_1 - 1)), (by first | rfl | (simp; done) | (simp [*]; done)), (by first | rfl | (simp; done) | (simp [*]; done)), H', ⟨by have := HK1.out; omega⟩, ⟨by (with_reducible repeat (first | apply Kd.R_alloc | apply Kd.R_drewN | apply Kd.R_drew)); exact HO_5.out⟩, ⟨by repeat (first | (with_reducible first | exact HB.out | apply below_alloc | apply pw_below_drewN | apply below_drew1) | exact HB.out)⟩⟩
              · rw [if_neg c9] at H
                exact absurd H (by simp)
            · rw [if_neg c8] at H
              exact absurd H (by simp)
          · rw [if_neg c7] at H
            have c7b0 : decide (0 ≤ x6_1) = false := decide_eq_false c7
            clear c7
            obtain rfl := Option.some.inj H
            go_wp2
            go_ret
            exact ⟨_, by first | rfl | (simp [errW_none, errW_some] <;> rfl) | (simp [*, errW_none, errW_some] <;> rfl), by (with_reducible repeat (first | apply Kd.R_alloc | apply Kd.R_drewN | apply Kd.R_drew)); exact HO_5.out, by repeat (first | (with_reducible first | exact HB.out | apply below_alloc | apply pw_below_drewN | apply below_drew1) | exact HB.out)⟩
    · rw [if_neg c4] at H
      exact absurd H (by simp)
  · rw [if_neg c3] at H
    exact absurd H (by simp)

/-! ### sum_turn: function 53 -/
def sum_turn.l0 : Nat → Int → Int → Option (Int)
  | 0, _, _ => none
  | k + 1, x0, x3 => if x3 < 8 then (sum_turn.l0 k (Go.bits .xor .u32 (x0 / 2) (Go.bits .and .u32 3988292384 ((-(Go.bits .and .u32 x0 1)) % 4294967296))) (wrap64 (x3 + 1))) else (some x0)
def sum_turn.f (k : Nat) (a0 : Int) : Option (Int) := sum_turn.l0 k a0 0
theorem sum_turn.mono_l : ∀ k, (∀ y0 y1, LeO (sum_turn.l0 k y0 y1) (sum_turn.l0 (k + 1) y0 y1))
  | 0 => fun _ _ r h => by simp [sum_turn.l0] at h
  | k + 1 => by
    have ih0 := sum_turn.mono_l k
    · intro y0 y1
      unfold sum_turn.l0
      repeat' first
      | (with_reducible exact ih0 _ _)
      | (with_reducible exact LeO.refl _)
      | (with_reducible exact LeO.none _)
      | (with_reducible refine LeO.ite ?_ ?_)
      | (with_reducible refine LeO.bind ?_ (fun _ => ?_))
      | exact ih0 _ _
      | exact LeO.none _
      | refine LeO.ite ?_ ?_
      | refine LeO.bind ?_ (fun _ => ?_)
theorem sum_turn.mono : ∀ a0 k, LeO (sum_turn.f k a0) (sum_turn.f (k + 1) a0) := by
  intro a0 k
  have ih0 := sum_turn.mono_l k
  unfold sum_turn.f
  repeat' first
      | (with_reducible exact ih0 _ _)
      | (with_reducible exact LeO.refl _)
      | (with_reducible exact LeO.none _)
      | (with_reducible refine LeO.ite ?_ ?_)
      | (with_reducible refine LeO.bind ?_ (fun _ => ?_))
      | exact ih0 _ _
      | exact LeO.none _
      | refine LeO.ite ?_ ?_
      | refine LeO.bind ?_ (fun _ => ?_)
set_option maxHeartbeats 8000000 in
set_option maxRecDepth 100000 in
theorem sum_turn.calls (k : Nat) (a0 : Int) (r : Int) (w : World) (h : sum_turn.f k a0 = some r) :
    Calls Tryd.prog 53 #[.int .u32 a0] w fun e w' => e = .returned (.int .u32 r) ∧ Drawn0 w w' := by
  have H : (sum_turn.l0 k a0 0) = some r := h
  clear h
  have H' := Aside0.mk H
  clear H
  go_enter Tryd.func53, Tryd.ntmps53
  go_wp2
  go_loopg [0, 3] k (fun kq v0 v3 w' => ∃ (x0_1 : Int) (x3_1 : Int), v0 = .int .u32 x0_1 ∧ v3 = .int .i64 x3_1 ∧ Aside0 (sum_turn.l0 kq x0_1 x3_1 = some r) ∧ Aside0 (kq ≤ k) ∧ Drawn0 w w')
  case atStart => exact ⟨(a0), (0), (by first | rfl | (simp; done) | (simp [*]; done)), (by first | rfl | (simp; done) | (simp [*]; done)), H', ⟨Nat.le_refl _⟩, by repeat (first | exact Drawn0.refl _ | apply Drawn0.step)⟩
  case round =>
    clear H'
    obtain ⟨x0_1, x3_1, rfl, rfl, HA, HK1, ⟨m1, rfl⟩⟩ := hrel
    cases gk with
    | zero => exact absurd HA.out (by simp [sum_turn.l0])
    | succ k1 =>
      have H := HA.out
      clear HA
      simp only [sum_turn.l0] at H
      by_cases c2 : x3_1 < 8
      · rw [if_pos c2] at H
        have c2b0 : decide (x3_1 < 8) = true := decide_eq_true c2
        clear c2
        have H' := Aside0.mk H
        clear H
        go_wp2
        go_roundg k1
        case measure => have := HK1.out; omega
        case rel => exact ⟨(Go.bits .xor .u32 (x0_1 / 2) (Go.bits .and .u32 3988292384 ((-(Go.bits .and .u32 x0_1 1)) % 4294967296))), (wrap64 (x3_1 + 1)), (by first | rfl | (simp; done) | (simp [*]; done)), (by first | rfl | (simp; done) | (simp [*]; done)), H', ⟨by have := HK1.out; omega⟩, by repeat (first | exact Drawn0.refl _ | apply Drawn0.step)⟩
      · rw [if_neg c2] at H
        have c2b0 : decide (x3_1 < 8) = false := decide_eq_false c2
        clear c2
        obtain rfl := Option.some.inj H
        go_wp2
        go_ret
        exact ⟨by first | rfl | (simp; done) | (simp [*]; done), by repeat (first | exact Drawn0.refl _ | apply Drawn0.step)⟩

end Go.Proofs.YtlmgikhgmbjfdaaDoor.QDig
