/- The walks over package sum: turn, CRC, a Roller. -/
import Derived.Test.YtkheloahiepoiaaPureSumCRC
import Derived.Test.YtkheloahiepoiaaRoll
import Derived.Test.YtkheloahiepoiaaOpen
import Derived.WalkKit
import Derived.Below
import Derived.Lib.Hide
import Derived.Deep.QuietTactic
import Derived.BigQuiet
import Derived.Deep.RegionWith
namespace Go.Proofs.Ytkheloahiepoiaa.Rolls
open Go Go.RowKit Go.Proofs.YtkheloahiepoiaaW.PrintWords Go.Proofs.YtkheloahiepoiaaW.PrintMore

theorem step_form (c : Nat) (hc : c < 4294967296) : Go.bits .xor .u32 ((c : Int) / 2) (Go.bits .and .u32 3988292384 ((-(Go.bits .and .u32 (c : Int) 1)) % 4294967296)) = ((Gy.cstep c : Nat) : Int) := by
  have e1 : Go.bits .and .u32 (c : Int) 1 = ((c % 2 : Nat) : Int) := by
    have h := Go.u32_and_nat c 1 hc (by omega)
    rw [Nat.and_one_is_mod] at h
    exact h
  rw [e1]
  unfold Gy.cstep
  have ed : (c : Int) / 2 = ((c / 2 : Nat) : Int) := by omega
  rw [ed]
  by_cases h : c % 2 = 1
  · rw [if_pos h, h]
    have ea : Go.bits .and .u32 3988292384 ((-((1 : Nat) : Int)) % 4294967296) = ((3988292384 : Nat) : Int) := by decide +kernel
    rw [ea, Go.u32_xor_nat _ _ (by omega) (by omega)]
  · rw [if_neg h, show c % 2 = 0 from by omega]
    have ea : Go.bits .and .u32 3988292384 ((-((0 : Nat) : Int)) % 4294967296) = ((0 : Nat) : Int) := by decide +kernel
    rw [ea, Go.u32_xor_nat _ _ (by omega) (by omega), Nat.xor_zero]
theorem turn_calls (a : Int) (c : Nat) (w : World) (ha : a = (c : Int)) (hc : c < 4294967296) : Calls Try.prog 51 #[.int .u32 a] w fun e w' => e = .returned (.int .u32 (Gy.cturn 8 c : Nat)) ∧ w = w' := by
  subst ha
  go_enter Try.func51, Try.ntmps51
  go_wp2
  go_loopw [0, 3] (fun v0 v3 wr => ∃ (j : Nat) (d : Nat), j ≤ 8 ∧ d < 4294967296 ∧ Gy.cturn (8 - j) d = Gy.cturn 8 c ∧ v0 = .int .u32 (d : Int) ∧ v3 = .int .i64 (j : Int) ∧ wr = w) (fun _ v3 _ => 8 - (intOf v3).toNat)
  case atStart => exact ⟨0, c, by omega, hc, rfl, rfl, rfl, rfl⟩
  case round =>
    obtain ⟨j, d, hj, hd, he, rfl, rfl, rfl⟩ := hrel
    by_cases hjn : j < 8
    · have t3 : decide ((j : Int) < 8) = true := by simp; omega
      have e3 := step_form d hd
      have hw : wrap64 ((j : Int) + 1) = (j : Int) + 1 := by unfold wrap64; omega
      go_wp2
      refine ⟨⟨j + 1, Gy.cstep d, by omega, Gy.cstep_lt hd, ?_, rfl, by norm_cast, trivial⟩, ?_⟩
      · rw [← he, show 8 - j = 8 - (j + 1) + 1 from by omega]
        rfl
      · simp only [intOf]
        omega
    · obtain rfl : j = 8 := by omega
      have t3 : decide (((8 : Nat) : Int) < 8) = false := by decide
      go_wp2
      go_ret
      exact ⟨by rw [← he]; rfl, rfl⟩
/-- what a byte makes of a sum, as the walk spells it -/
theorem byte_form (d n : Nat) (hd : d < 4294967296) (hn : n < 256) : Go.bits .xor .u32 (Go.bits .andNot .u32 (d : Int) 255) ((Go.bits .xor .u8 ((d : Int) % 256) (n : Int)) % 4294967296) = ((d ^^^ n : Nat) : Int) := by
  have e0 : (d : Int) % 256 = ((d % 256 : Nat) : Int) := by omega
  have e1 : Go.bits .xor .u8 ((d : Int) % 256) (n : Int) = ((d % 256 ^^^ n : Nat) : Int) := by rw [e0]; exact Go.u8_xor_nat _ _ (by omega) (by omega)
  have h8 : d % 256 ^^^ n < 256 := Nat.xor_lt_two_pow (n := 8) (by omega) (by omega)
  rw [e1, show (((d % 256 ^^^ n : Nat) : Int)) % 4294967296 = ((d % 256 ^^^ n : Nat) : Int) from by omega]
  have e2 : Go.bits .andNot .u32 (d : Int) 255 = ((d &&& (4294967295 - 255) : Nat) : Int) := Go.u32_andNot_nat d 255 hd (by omega)
  have hle : (d &&& (4294967295 - 255)) < 4294967296 := Nat.lt_of_le_of_lt Nat.and_le_left hd
  rw [e2, Go.u32_xor_nat _ _ hle (by omega)]
  congr 1
  exact Go.Proofs.Ytkheloahiepoiaa.Pure.low_byte d n hd
theorem crcFold_take (c : Nat) (xs : List Int) (j : Nat) (hj : j < xs.length) : Gy.crcFold c (xs.take (j + 1)) = Gy.cturn 8 (Gy.crcFold c (xs.take j) ^^^ (xs[j]).toNat) := by
  rw [List.take_succ_eq_append_getElem hj, Gy.crcFold_snoc]
theorem ones_form (c : Nat) (hc : c < 4294967296) : Go.bits .xor .u32 IntKind.u32.max (c : Int) = ((c ^^^ 4294967295 : Nat) : Int) := by
  have h := Go.u32_xor_nat 4294967295 c (by omega) hc
  rw [Nat.xor_comm] at h
  exact h
set_option maxHeartbeats 1000000 in
theorem crc_calls (A : Option Addr) (n c : Nat) (xs : List Int) (w : World) (hR : ReadsInt w .u8 A n xs) (hx : ∀ x ∈ xs, 0 ≤ x ∧ x < 256) :
    Calls Try.prog 25 #[.slice A n c] w fun e w' => e = .returned (.int .u32 (Gy.crc xs : Nat)) ∧ w = w' := by
  have HR := Lib.hid hR
  have HX := Lib.hid hx
  have hn : n ≤ 9223372036854775807 := hR.2.1
  have HL := Lib.hid hR.1
  clear hR hx
  go_enter Try.func25, Try.ntmps25
  go_wp2
  go_loopw [3, 8] (fun v3 v8 wr => ∃ j : Nat, j ≤ n ∧ v3 = .int .u32 ((Gy.crcFold 4294967295 (xs.take j) : Nat) : Int) ∧ v8 = .int .i64 (j : Int) ∧ wr = w) (fun _ v8 _ => n - (intOf v8).toNat)
  case atStart => exact ⟨0, by omega, rfl, rfl, rfl⟩
  case round =>
    obtain ⟨j, hj, rfl, rfl, rfl⟩ := hrel
    have hlen := HL.out
    have hc : Gy.crcFold 4294967295 (xs.take j) < 4294967296 := Gy.crcFold_lt _ _ (by omega) (fun x hx => HX.out x (List.mem_of_mem_take hx))
    by_cases hjn : j < n
    · have hjl : j < xs.length := by omega
      have t3 : decide ((j : Int) < (n : Int)) = true := by simp; omega
      obtain ⟨ad, rfl, hcell⟩ := HR.out.2.2 (by omega)
      have hx := hcell j hjn
      have hgd : xs.getD j 0 = xs[j] := by simp [List.getD_eq_getElem?_getD, hjl]
      rw [hgd] at hx
      have hsum := crcFold_take 4294967295 xs j hjl
      have hb1 := HX.out _ (List.getElem_mem hjl)
      generalize xs[j] = x at hx hsum hb1 hgd
      obtain ⟨m, rfl⟩ : ∃ m : Nat, x = (m : Int) := ⟨x.toNat, by omega⟩
      rw [Int.toNat_natCast] at hsum
      generalize Gy.crcFold 4294967295 (xs.take j) = d at hsum hc ⊢
      have hm : m < 256 := by omega
      have e5 := byte_form d m hc hm
      have hlt : d ^^^ m < 4294967296 := Gy.xor_lt32 hc (by omega)
      have HT := Lib.hid (fun a w h => turn_calls a (d ^^^ m) w h hlt)
      have E5 := Lib.hid e5
      have hw : wrap64 ((j : Int) + 1) = (j : Int) + 1 := by unfold wrap64; omega
      clear hcell hgd e5
      go_wp2_with (go_at_call 51; (with_reducible refine (HT.out _ _ E5.out).mono ?_); rintro e w' ⟨rfl, rfl⟩)
      refine ⟨⟨j + 1, by omega, by rw [hsum], by norm_cast, trivial⟩, ?_⟩
      simp only [intOf]
      omega
    · obtain rfl : j = n := by omega
      have t3 : decide ((j : Int) < (j : Int)) = false := by simp
      rw [List.take_of_length_le (by omega)] at hc ⊢
      have e6 := ones_form _ hc
      go_wp2
      go_ret
      exact ⟨rfl, rfl⟩
end Go.Proofs.Ytkheloahiepoiaa.Rolls
