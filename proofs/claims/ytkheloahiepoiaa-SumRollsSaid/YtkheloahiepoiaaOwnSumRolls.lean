/- SumRolls: the walk. -/
import Derived.Test.YtkheloahiepoiaaRollMake
namespace Go.Proofs.Ytkheloahiepoiaa.Rolls
open Go Go.RowKit Go.Proofs.YtkheloahiepoiaaW.PrintWords Go.Proofs.YtkheloahiepoiaaW.PrintMore

theorem u8_wf {x : Int} (h : (Lit.int .u8 x).wf = true) : 0 ≤ x ∧ x < 256 := Gy.u8_range h
theorem kd_of_reads {w : World} {A : Option Addr} {n : Nat} {xs : List Int} (h : ReadsInt w .u8 A n xs) : Kd.C (Kd.int .u8) w A xs.length xs := by
  obtain rfl : xs.length = n := h.1
  exact Kd.C_of_reads (enc := Value.int .u8) (d := (0 : Int)) (h1 := fun _ => rfl) h
theorem ref_calls (A : Option Addr) (n c : Nat) (xs : List Int) (w : World) (hR : ReadsInt w .u8 A n xs) (hx : ∀ x ∈ xs, 0 ≤ x ∧ x < 256) (hc : n ≤ c) :
    Calls Try.prog 26 #[.slice A n c] w fun e w' => e = .returned (.int .u32 (Gy.crc xs : Nat)) ∧ Below w.heap.size w w' := by
  have hk := kd_of_reads hR
  obtain rfl : xs.length = n := hR.1
  have h := QSumCRC.geyserref01_CRC.calls (10 * xs.length + 1) A c xs _ w hk hc (Pure.rcrc_f hx hR.2.1 (by omega))
  exact h.mono fun e w' h => ⟨h.1, h.2.below⟩
theorem awake_calls (w : World) : Calls Try.prog 24 #[] w fun e w' => e = .returned (.bool true) ∧ Below w.heap.size w w' := by
  obtain ⟨k, hk⟩ : ∃ k : Nat, 100 ≤ k := ⟨_, Nat.le_refl _⟩
  refine QSumCRC.geyserlaw02_awake.calls k true w ?_
  unfold QSumCRC.geyserlaw02_awake.f
  rw [Pure.crc_f (by decide) (by decide) (by show 9 + 10 < k; omega), Option.bind_some]
  decide +kernel
theorem nat_of {n : Int} (h : 0 ≤ n) : ∃ m : Nat, n = (m : Int) := ⟨n.toNat, by omega⟩
theorem first_window (xs : List Int) (size : Nat) : (xs.drop 0).take size = xs.take size := by rw [List.drop_zero]
theorem wrapEq (x : Int) : IntKind.i64.wrap x = wrap64 x := by rw [IntKind.wrap_i64]; unfold wrap64; omega
theorem sums {i size L : Nat} (h : i + size < L) (hL : L ≤ 1000) : wrap64 ((i : Int) + (size : Int)) = (i : Int) + (size : Int) ∧ decide ((i : Int) + (size : Int) < (L : Int)) = true ∧ IntKind.i64.wrap ((i : Int) + (size : Int)) = (i : Int) + (size : Int) ∧ (0 : Int) ≤ (i : Int) + (size : Int) ∧ (i : Int) + (size : Int) < (L : Int) ∧ ((i : Int) + (size : Int)).toNat = i + size ∧ (i : Int) < (L : Int) ∧ wrap64 ((i : Int) + 1) = (i : Int) + 1 ∧ wrap64 ((i : Int) + 1 + (size : Int)) = (i : Int) + 1 + (size : Int) := by
  have h1 : IntKind.i64.wrap ((i : Int) + (size : Int)) = wrap64 ((i : Int) + (size : Int)) := wrapEq _
  have h2 : wrap64 ((i : Int) + (size : Int)) = (i : Int) + (size : Int) := by unfold wrap64; omega
  refine ⟨h2, by simp; omega, h1.trans h2, by omega, by omega, by omega, by omega, by unfold wrap64; omega, by unfold wrap64; omega⟩
theorem sums_end {i size L : Nat} (h : ¬ i + size < L) (h2 : i + size ≤ L) (hL : L ≤ 1000) : wrap64 ((i : Int) + (size : Int)) = (i : Int) + (size : Int) ∧ decide ((i : Int) + (size : Int) < (L : Int)) = false := by
  refine ⟨by unfold wrap64; omega, by simp; omega⟩
theorem byte_at {w : World} {ad : Addr} {n : Nat} {xs : List Int} (h : ReadsInt w .u8 (some ad) n xs) (hx : ∀ x ∈ xs, 0 ≤ x ∧ x < 256) (j : Nat) (hj : j < xs.length) : ∃ o : Nat, xs[j] = (o : Int) ∧ o < 256 ∧ w.cell? (ad.add j) = some (.int .u8 (o : Int)) := by
  obtain ⟨ad', e, hc⟩ := h.2.2 (by have := h.1; omega)
  injection e with e
  subst e
  have h1 := hc j (by have := h.1; omega)
  have h2 : xs.getD j 0 = xs[j] := by simp [List.getD_eq_getElem?_getD, hj]
  have h3 := hx _ (List.getElem_mem hj)
  refine ⟨(xs[j]).toNat, by omega, by omega, ?_⟩
  rw [h1, h2, show (((xs[j]).toNat : Nat) : Int) = xs[j] from by omega]
theorem end_roll {i L : Nat} (h : i < L) : L - (intOf (Value.int .i64 ((i : Int) + 1))).toNat < L - (intOf (Value.int .i64 (i : Int))).toNat := by
  show L - ((i : Int) + 1).toNat < L - ((i : Int)).toNat
  omega
theorem take_le (xs : List Int) (i m : Nat) (h : i + m ≤ xs.length) : ((xs.drop i).take m).length = m := by rw [List.length_take, List.length_drop]; omega
theorem window_ok {xs : List Int} (hx : ∀ x ∈ xs, 0 ≤ x ∧ x < 256) (i m : Nat) : ∀ x ∈ (xs.drop i).take m, 0 ≤ x ∧ x < 256 := fun x h => hx x (List.mem_of_mem_drop (List.mem_of_mem_take h))
set_option maxRecDepth 100000 in
theorem opens_bytes : Gy.Opens Try.prog 35 (Kd.slice 5 (Kd.int .u8)) (fun xs => xs.length ≤ 9223372036854775807 ∧ ∀ x ∈ xs, (Lit.int .u8 x).wf = true) :=
  Gy.Opens.slice Try.underlying35 (by kernel_rfl) (Gy.Opens.int Try.underlying5 (by kernel_rfl))
set_option maxHeartbeats 4000000 in
set_option maxRecDepth 100000 in
theorem sumrolls (A0 : Option Addr) (c0 : Nat) (xs : List Int) (z : Int) (W : World) (hC0 : (Kd.int .u8).C W A0 xs.length xs) (hl0 : xs.length ≤ c0) (hg0 : xs.length ≤ 9223372036854775807 ∧ ∀ x ∈ xs, (Lit.int .u8 x).wf = true) (_hz : (Lit.int .i64 z).wf = true) :
    Calls Try.prog 11 #[.slice A0 xs.length c0, .int .i64 z] W fun e w' => e = .returned (.bool true) ∧ Below W.heap.size W w' := by
  have HR := Lib.hid (Gy.reads_of_kd hC0)
  have hx : ∀ x ∈ xs, 0 ≤ x ∧ x < 256 := fun x h => u8_wf (hg0.2 x h)
  have HX := Lib.hid hx
  have HL0 := Lib.hid hl0
  clear hC0 hg0 hx hl0
  by_cases hlen : 1000 < (xs.length : Int)
  · have tl : decide (1000 < (xs.length : Int)) = true := by simp only [decide_eq_true_eq]; exact hlen
    clear hlen
    go_enter Try.func11, Try.ntmps11
    go_wp2_with (go_at_call 24; (with_reducible refine (awake_calls _).mono ?_); rintro e w1 ⟨rfl, e1⟩; first | (have E1 := Lib.hid (E1.out.trans (e1.mono E1.out.size)); clear e1) | (have E1 := Lib.hid e1; clear e1))
    go_ret
    exact ⟨rfl, E1.out⟩
  · have tl : decide (1000 < (xs.length : Int)) = false := by simp only [decide_eq_false_iff_not]; exact hlen
    have HX1 := Lib.hid (show xs.length ≤ 1000 by omega)
    clear hlen
    by_cases hz : z < 1 ∨ 256 < z
    · have HN := Lib.hid (fun w => newroller_bad z w hz)
      by_cases h1 : z < 1
      · have u1 : decide (z < 1) = true := by simp [h1]
        clear hz h1
        go_enter Try.func11, Try.ntmps11
        go_wp2_with (first
          | (go_at_call 24; (with_reducible refine (awake_calls _).mono ?_); rintro e w1 ⟨rfl, e1⟩; have E1 := Lib.hid e1; clear e1)
          | (go_at_call 34; (with_reducible refine (HN.out _).mono ?_); rintro e w2 ⟨rfl, rfl⟩)
          | (go_at_call 35; (with_reducible refine (next_nil _ _ _ _).mono ?_); rintro e w2 ⟨rfl, rfl⟩))
        go_ret
        exact ⟨rfl, E1.out⟩
      · have u1 : decide (z < 1) = false := by simp [h1]
        have u2 : decide (256 < z) = true := by simp; omega
        clear hz h1
        go_enter Try.func11, Try.ntmps11
        go_wp2_with (first
          | (go_at_call 24; (with_reducible refine (awake_calls _).mono ?_); rintro e w1 ⟨rfl, e1⟩; have E1 := Lib.hid e1; clear e1)
          | (go_at_call 34; (with_reducible refine (HN.out _).mono ?_); rintro e w2 ⟨rfl, rfl⟩)
          | (go_at_call 35; (with_reducible refine (next_nil _ _ _ _).mono ?_); rintro e w2 ⟨rfl, rfl⟩))
        go_ret
        exact ⟨rfl, E1.out⟩
    · obtain ⟨size, rfl⟩ : ∃ m : Nat, z = (m : Int) := nat_of (by omega)
      have h1 : 1 ≤ size := by omega
      have h2 : size ≤ 256 := by omega
      have HN := Lib.hid (fun w => newroller_calls size w h1 h2)
      have H12 := Lib.hid (And.intro h1 h2)
      have u1 : decide ((size : Int) < 1) = false := by simp; omega
      have u2 : decide (256 < (size : Int)) = false := by simp; omega
      clear hz h1 h2
      by_cases hs : (xs.length : Int) < (size : Int)
      · have u3 : decide ((xs.length : Int) < (size : Int)) = true := by simp only [decide_eq_true_eq]; exact hs
        have u3n : decide (xs.length < size) = true := by simp only [decide_eq_true_eq]; omega
        clear hs
        go_enter Try.func11, Try.ntmps11
        go_wp2_with (first
          | (go_at_call 24; (with_reducible refine (awake_calls _).mono ?_); rintro e w1 ⟨rfl, e1⟩; have E1 := Lib.hid e1; clear e1)
          | (go_at_call 34; (with_reducible refine (HN.out _).mono ?_); rintro e w2 ⟨g, rfl, e1, e2⟩; have E2 := Lib.hid (E1.out.trans (e2.mono E1.out.size)); clear e1 e2))
        go_ret
        exact ⟨rfl, E2.out⟩
      · have u3 : decide ((xs.length : Int) < (size : Int)) = false := by simp only [decide_eq_false_iff_not]; exact hs
        have u3n : decide (xs.length < size) = false := by simp only [decide_eq_false_iff_not]; omega
        have HSL := Lib.hid (show size ≤ xs.length by omega)
        clear hs
        obtain ⟨A1, s1, s2⟩ := Gy.mid_at (P := Try.prog) 35 5 Try.underlying35 info_u8 A0 c0 xs 0 size (by have := HSL.out; omega) HL0.out
        have s1' : ∀ W : World, (Instr.slice 35 (.slice A0 xs.length c0) none (some (.int .i64 (size : Int))) none).run Try.prog W = .ok (.slice A0 size c0) W := by
          obtain ⟨i0, hi, hzz⟩ := Option.map_eq_some_iff.1 info_u8
          simp only [Prod.mk.injEq] at hzz
          obtain ⟨hz0, hz1, hz2⟩ := hzz
          have h3 := (print_take_int (P := Try.prog) (k := .u8) 35 5 Try.underlying35 hi hz1 A0 c0 xs (size : Int) (by omega) (by have := HSL.out; omega) HL0.out).1
          rw [Int.toNat_natCast, List.length_take_of_le HSL.out] at h3
          exact h3
        have s2' : ∀ w : World, ReadsInt w .u8 A0 xs.length xs → ReadsInt w .u8 A0 size (xs.take size) := by
          obtain ⟨i0, hi, hzz⟩ := Option.map_eq_some_iff.1 info_u8
          simp only [Prod.mk.injEq] at hzz
          obtain ⟨hz0, hz1, hz2⟩ := hzz
          intro w h
          have h3 := (print_take_int (P := Try.prog) (k := .u8) 35 5 Try.underlying35 hi hz1 A0 c0 xs (size : Int) (by omega) (by have := HSL.out; omega) HL0.out).2.1 w h
          rw [Int.toNat_natCast, List.length_take_of_le HSL.out] at h3
          exact h3
        have S2 := Lib.hid s2'
        clear s1 s2 s2'
        have hcc : size ≤ c0 := Nat.le_trans HSL.out HL0.out
        have HXT := Lib.hid (fun x (h : x ∈ xs.take size) => HX.out x (List.mem_of_mem_take h))
        go_enter Try.func11, Try.ntmps11
        go_wp2_with (first
          | (go_at_call 24; (with_reducible refine (awake_calls _).mono ?_); rintro e w1 ⟨rfl, e1⟩; have E1 := Lib.hid e1; clear e1)
          | (go_at_call 34; (with_reducible refine (HN.out _).mono ?_); rintro e w2 ⟨g, rfl, e1, e2⟩; have E2 := Lib.hid (And.intro e1 (E1.out.trans (e2.mono E1.out.size))); clear e1 e2)
          | (go_at_call 25; (with_reducible refine (crc_calls _ _ _ (xs.take size) _ (S2.out _ (Gy.reads_below HR.out E2.out.2)) HXT.out).mono ?_); rintro e w3 ⟨rfl, rfl⟩))
        go_loopw [6, 7] (fun v6 v7 wr => ∃ i : Nat, i + size ≤ xs.length ∧ v7 = .int .i64 (i : Int) ∧ v6 = .int .u32 ((Gy.crc ((xs.drop i).take size) : Nat) : Int) ∧ RollAt wr g size 256 256 ∧ Below W.heap.size W wr) (fun _ v7 _ => xs.length - (intOf v7).toNat)
        case atStart => exact ⟨0, by have := HSL.out; omega, rfl, by rw [first_window], E2.out⟩
        case round =>
          obtain ⟨i, hi, rfl, rfl, hRo, hB⟩ := hrel
          clear s1'
          by_cases hin : i + size < xs.length
          · have t2n : decide (i + size < xs.length) = true := by simp only [decide_eq_true_eq]; exact hin
            obtain ⟨t1, t2, t3, t4, t5, t6, t7, t8, t9⟩ := sums hin HX1.out
            obtain ⟨ad, rfl, _⟩ := HR.out.2.2 (by omega)
            obtain ⟨o, ho, lo, ko⟩ := byte_at (Gy.reads_below HR.out hB) HX.out i (by omega)
            obtain ⟨p, hp, lp, kp⟩ := byte_at (Gy.reads_below HR.out hB) HX.out (i + size) hin
            obtain ⟨A2, m1, m2⟩ := Gy.mid_at (P := Try.prog) 35 5 Try.underlying35 info_u8 (some ad) c0 xs (i + 1) size (by omega) HL0.out
            have m1' : ∀ W : World, (Instr.slice 35 (.slice (some ad) xs.length c0) (some (.int .i64 ((i : Int) + 1))) (some (.int .i64 ((i : Int) + 1 + (size : Int)))) none).run Try.prog W = .ok (.slice A2 size (c0 - (i + 1))) W := m1
            have hst := Gy.roll_step xs i size H12.out.1 hin
            rw [ho, hp] at hst
            have hcl : Gy.crc ((xs.drop i).take size) < 4294967296 := Gy.crc_lt _ (window_ok HX.out _ _)
            have hcl2 : size ≤ c0 - (i + 1) := by have := HL0.out; omega
            have hend := end_roll (show i < xs.length by omega)
            have HST := Lib.hid hst
            have HWJ := Lib.hid t8
            have HW := Lib.hid (And.intro hcl (And.intro lo (And.intro lp hcl2)))
            have HIN := Lib.hid (show i + 1 + size ≤ xs.length by omega)
            have HRO := Lib.hid hRo
            have HB := Lib.hid hB
            have M2 := Lib.hid m2
            clear hst hcl hRo hB m1 m2 lo lp ho hp hi hcl2
            generalize Gy.crc ((xs.drop i).take size) = cc at *
            go_wp2
            go_quiet ((go_at_call 35; refine Calls.quiet_of_same ((next_calls g size cc o p _ (HRO.out.below (pw_below_drewN (Below.refl _ _) _)) HW.out.1 HW.out.2.1 HW.out.2.2.1).mono fun _ _ h => ⟨h.1, h.2.symm⟩)))
            rw [HST.out]
            have HB2 := Lib.hid (pw_below_drewN HB.out nq)
            have HRO2 := Lib.hid (HRO.out.below (pw_below_drewN (Below.refl _ _) nq))
            have HM := Lib.hid (M2.out _ (Gy.reads_below HR.out HB2.out))
            go_wp2_with (go_at_call 26; (with_reducible refine (ref_calls _ _ _ ((xs.drop (i + 1)).take size) _ HM.out (window_ok HX.out _ _) HW.out.2.2.2).mono ?_); rintro e w5 ⟨rfl, e1⟩; have E5 := Lib.hid e1; clear e1)
            rw [HWJ.out]
            exact ⟨⟨i + 1, HIN.out, by norm_cast, rfl, HRO2.out.below E5.out, HB2.out.trans (E5.out.mono HB2.out.size)⟩, hend⟩
          · have t2n : decide (i + size < xs.length) = false := by simp only [decide_eq_false_iff_not]; exact hin
            obtain ⟨t1, t2⟩ := sums_end hin hi HX1.out
            have HB := Lib.hid hB
            clear hRo hB
            go_wp2
            go_ret
            exact ⟨rfl, HB.out⟩
end Go.Proofs.Ytkheloahiepoiaa.Rolls
