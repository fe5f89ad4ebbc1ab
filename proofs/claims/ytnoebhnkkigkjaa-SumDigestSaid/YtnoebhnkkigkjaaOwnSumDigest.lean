/- SumDigest: the walk. -/
import Derived.Test.YtnoebhnkkigkjaaShaRef9
import Derived.Test.YtnoebhnkkigkjaaArrEq
import Derived.Test.YtnoebhnkkigkjaaOpen
namespace Go.Proofs.Ytnoebhnkkigkjaa.Dig
open Go Go.RowKit Go.Proofs.Ytnoebhnkkigkjaa.QDig Go.Proofs.YtnoebhnkkigkjaaW.PrintWords Go.Proofs.YtnoebhnkkigkjaaW.PrintLast Go.Proofs.YtnoebhnkkigkjaaW.PrintMore Gy

theorem crc_123 : sum_CRC.f 30 ([49, 50, 51, 52, 53, 54, 55, 56, 57] : List Int) = some 3421780262 := by decide +kernel
set_option maxHeartbeats 1000000 in
set_option maxRecDepth 100000 in
theorem awake_calls (w : World) : Calls Try.prog 25 #[] w fun e w' => e = .returned (.bool true) ∧ Below w.heap.size w w' := by
  have hcv := Go.Lib.run_convert_bytes_const (P := Try.prog) w 25 5 #[.int .u8 49, .int .u8 50, .int .u8 51, .int .u8 52, .int .u8 53, .int .u8 54, .int .u8 55, .int .u8 56, .int .u8 57] 9 9 Try.underlying25 Try.underlying5
  have hc : ∀ W, Kd.C (Kd.int .u8) W (some ⟨w.heap.size, 0, none⟩) 9 [49, 50, 51, 52, 53, 54, 55, 56, 57] → Calls Try.prog 37 #[.slice (some ⟨w.heap.size, 0, none⟩) 9 9] W fun e w' => e = .returned (.int .u32 3421780262) ∧ Drawn0 W w' := fun W hW => sum_CRC.calls 30 _ _ [49, 50, 51, 52, 53, 54, 55, 56, 57] _ W hW (Nat.le_refl 9) crc_123
  go_enter Try.func25, Try.ntmps25
  go_wp2_with (go_at_call 37; (with_reducible refine (hc _ (Gy.lit_reads .u8 w [49, 50, 51, 52, 53, 54, 55, 56, 57] 5 (9, 10) (by decide) _ rfl)).mono ?_); rintro e w' ⟨rfl, hd⟩)
  go_ret
  exact ⟨rfl, ((Below.refl _ w).alloc (Nat.le_refl _) _).trans (hd.below.mono (by simp))⟩
theorem u8_wf {x : Int} (h : (Lit.int .u8 x).wf = true) : 0 ≤ x ∧ x < 256 := by
  obtain ⟨n, rfl, h⟩ := Gy.wf_u8 h
  omega
set_option maxRecDepth 100000 in
theorem opens_bytes : Gy.Opens Try.prog 25 (Kd.slice 5 (Kd.int .u8)) (fun xs => xs.length ≤ 9223372036854775807 ∧ ∀ x ∈ xs, (Lit.int .u8 x).wf = true) :=
  Gy.Opens.slice Try.underlying25 (by kernel_rfl) (Gy.Opens.int Try.underlying5 (by kernel_rfl))
theorem u8_info : ∃ i, Try.prog.info? 5 = some i ∧ Try.prog.cellsOf 5 = 1 := by
  obtain ⟨i, hi, _⟩ := Option.map_eq_some_iff.1 info_u8
  exact ⟨i, hi, by kernel_rfl⟩
set_option maxHeartbeats 2000000 in
set_option maxRecDepth 100000 in
theorem sumdigest (A0 : Option Addr) (c0 : Nat) (xs : List Int) (W : World) (hC0 : (Kd.int .u8).C W A0 xs.length xs) (_hl0 : xs.length ≤ c0) (hg0 : xs.length ≤ 9223372036854775807 ∧ ∀ x ∈ xs, (Lit.int .u8 x).wf = true) :
    Calls Try.prog 6 #[.slice A0 xs.length c0] W fun e w' => e = .returned (.bool true) ∧ Below W.heap.size W w' := by
  have HR := Lib.hid (Gy.reads_of_kd hC0)
  have hx : Bytes xs := fun x h => u8_wf (hg0.2 x h)
  have HX := Lib.hid hx
  clear hC0 hg0 hx
  by_cases hlen : 20000 < (xs.length : Int)
  · have tl : decide (20000 < (xs.length : Int)) = true := by simp only [decide_eq_true_eq]; exact hlen
    clear hlen
    go_enter Try.func6, Try.ntmps6
    go_wp2_with (go_at_call 25; (with_reducible refine (awake_calls _).mono ?_); rintro e w1 ⟨rfl, e1⟩; first | (have E1 := Lib.hid (E1.out.trans (e1.mono E1.out.size)); clear e1) | (have E1 := Lib.hid e1; clear e1))
    go_ret
    exact ⟨rfl, E1.out⟩
  · have tl : decide (20000 < (xs.length : Int)) = false := by simp only [decide_eq_false_iff_not]; exact hlen
    have HN := Lib.hid (show xs.length ≤ 1000000 by omega)
    have heq : ∀ w : World, (binOp .eql 49 (.agg (nums .u8 (sha xs)).toArray) (.agg (nums .u8 (sha xs)).toArray)).run Try.prog w = .ok (.bool true) w := fun w => by
      obtain ⟨i, hi, hc⟩ := u8_info
      rw [Gy.run_eql_arr w _ _ 32 Try.underlying49 hi hc Try.underlying5 _ _ (sha_length xs) (sha_length xs)]
      simp
    clear hlen
    go_enter Try.func6, Try.ntmps6
    go_wp2_with (first
      | (go_at_call 25; (with_reducible refine (awake_calls _).mono ?_); rintro e w1 ⟨rfl, e1⟩; have E1 := Lib.hid e1; clear e1)
      | (go_at_call 26; (with_reducible refine (digest_calls A0 _ c0 xs _ (Gy.reads_below HR.out E1.out) HX.out HN.out).mono ?_); rintro e w2 ⟨rfl, e1⟩; have E2 := Lib.hid (E1.out.trans (e1.mono E1.out.size)); clear e1)
      | (go_at_call 27; (with_reducible refine (ref_calls A0 _ c0 xs _ (Gy.reads_below HR.out E2.out) HX.out HN.out).mono ?_); rintro e w3 ⟨rfl, e1⟩; have E3 := Lib.hid (E2.out.trans (e1.mono E2.out.size)); clear e1))
    go_ret
    exact ⟨rfl, E3.out⟩
end Go.Proofs.Ytnoebhnkkigkjaa.Dig
