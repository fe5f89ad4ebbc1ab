/- The walks over the reference: a word turned leaves the world as it is; small facts. -/
import Derived.Test.YtnoebhnkkigkjaaShaDigest
namespace Go.Proofs.Ytnoebhnkkigkjaa.Dig
open Go Go.RowKit Go.Proofs.Ytnoebhnkkigkjaa.QDig Go.Proofs.YtnoebhnkkigkjaaW.PrintWords Go.Proofs.YtnoebhnkkigkjaaW.PrintLast Go.Proofs.YtnoebhnkkigkjaaW.PrintMore Gy

set_option maxHeartbeats 8000000 in
set_option maxRecDepth 100000 in
theorem turned_some (a0 : Int) (a1 : Int) (r : Int) (w : World) (h : geyserref01_turned.f a0 a1 = some r) :
    Calls Try.prog 42 #[.int .u64 a0, .int .u64 a1] w fun e w' => e = .returned (.int .u64 r) ∧ w' = w := by
  have H : (if 0 ≤ a1 then (if 0 ≤ (IntKind.u64.wrap (32 - a1)) then (some (Go.bits .and .u64 (Go.bits .or .u64 (shr .u64 a0 a1) (shl .u64 a0 (IntKind.u64.wrap (32 - a1)))) 4294967295)) else (none)) else (none)) = some r := h
  clear h
  by_cases c3 : 0 ≤ a1
  · rw [if_pos c3] at H
    have c3b0 := eq_true c3
    have c3b1 : decide (0 ≤ a1) = true := decide_eq_true c3
    clear c3
    obtain ⟨ji4, hji4⟩ : ∃ j_ : Int, (shr .u64 a0 a1) = j_ := ⟨_, rfl⟩
    replace H : (if 0 ≤ (IntKind.u64.wrap (32 - a1)) then (some (Go.bits .and .u64 (Go.bits .or .u64 (ji4) (shl .u64 a0 (IntKind.u64.wrap (32 - a1)))) 4294967295)) else (none)) = some r := by first | (rw [hji4] at H; exact H) | (simp only [hji4] at H ⊢; exact H)
    have hji4_ : (a0 / 2 ^ min a1.toNat 64) = ji4 := hji4
    have hji4z : a1 ≤ 64 → (a0 / 2 ^ a1.toNat) = ji4 := shr_small hji4
    obtain ⟨ji5, hji5⟩ : ∃ j_ : Int, (IntKind.u64.wrap (32 - a1)) = j_ := ⟨_, rfl⟩
    replace H : (if 0 ≤ (ji5) then (some (Go.bits .and .u64 (Go.bits .or .u64 (ji4) (shl .u64 a0 (ji5))) 4294967295)) else (none)) = some r := by first | (rw [hji5] at H; exact H) | (simp only [hji5] at H ⊢; exact H)
    by_cases c6 : 0 ≤ (ji5)
    · rw [if_pos c6] at H
      have c6b0 := eq_true c6
      have c6b1 : decide (0 ≤ (ji5)) = true := decide_eq_true c6
      clear c6
      obtain ⟨ji7, hji7⟩ : ∃ j_ : Int, (shl .u64 a0 (ji5)) = j_ := ⟨_, rfl⟩
      replace H : (some (Go.bits .and .u64 (Go.bits .or .u64 (ji4) (ji7)) 4294967295)) = some r := by first | (rw [hji7] at H; exact H) | (simp only [hji7] at H ⊢; exact H)
      have hji7_ : (IntKind.u64.wrap (a0 * 2 ^ min (ji5).toNat 64)) = ji7 := hji7
      have hji7z : (ji5) ≤ 64 → (IntKind.u64.wrap (a0 * 2 ^ (ji5).toNat)) = ji7 := shl_small hji7
      obtain rfl := Option.some.inj H
      go_enter Try.func42, Try.ntmps42
      go_wp2
      go_ret
      exact ⟨by first | rfl | (simp; done) | (simp only [← hji4, ← hji5, ← hji7] <;> (first | rfl | simp)) | (simp [*]; done), rfl⟩
    · rw [if_neg c6] at H
      exact absurd H (by simp)
  · rw [if_neg c3] at H
    exact absurd H (by simp)
theorem turned_same (x : Nat) (n : Int) (w : World) (m : Nat) (hx : x < 4294967296) (h : n = (m : Int)) (h1 : 1 ≤ m) (h2 : m ≤ 31) :
    Calls Try.prog 42 #[.int .u64 (x : Int), .int .u64 n] w fun e w' => e = .returned (.int .u64 ((ror m x : Nat) : Int)) ∧ w' = w := by
  subst h
  exact turned_some _ _ _ w (turned_f hx h1 h2)
/-! ### a number in so many bytes -/
def wideN (v n : Nat) : List Int := (List.range n).map fun i => ((v / 256 ^ (n - 1 - i) % 256 : Nat) : Int)
theorem wideN_length (v n : Nat) : (wideN v n).length = n := by unfold wideN; rw [List.length_map, List.length_range]
theorem wideN_bytes (v n : Nat) : Bytes (wideN v n) := by
  intro x hx
  unfold wideN at hx
  obtain ⟨i, _, rfl⟩ := List.mem_map.1 hx
  omega
theorem wideN_succ (v m : Nat) : wideN v (m + 1) = wideN (v / 256) m ++ [((v % 256 : Nat) : Int)] := by
  unfold wideN
  rw [List.range_succ, List.map_append]
  congr 1
  · refine List.map_congr_left fun i hi => ?_
    have hi := List.mem_range.1 hi
    rw [Nat.div_div_eq_div_mul, show m + 1 - 1 - i = (m - 1 - i) + 1 from by omega, Nat.pow_succ, Nat.mul_comm]
  · show [((v / 256 ^ (m + 1 - 1 - m) % 256 : Nat) : Int)] = _
    rw [show m + 1 - 1 - m = 0 from by omega, Nat.pow_zero, Nat.div_one]
theorem wide8_eq (v : Nat) : wide8 v = wideN v 8 := rfl
theorem Wide_l0 : ∀ (m k v : Nat) (l : List Int), m ≤ l.length → l.length ≤ 1000 → v < 18446744073709551616 → m < k → geyserref01_Wide.l0 k (v : Int) l ((m : Int) - 1) = some (wideN v m ++ l.drop m) := by
  intro m
  induction m with
  | zero =>
    intro k v l _ _ _ hk
    obtain ⟨k, rfl⟩ : ∃ q, k = q + 1 := ⟨k - 1, by omega⟩
    simp only [geyserref01_Wide.l0]
    rw [if_neg (by omega)]
    rfl
  | succ m ih =>
    intro k v l hm hl hv hk
    obtain ⟨k, rfl⟩ : ∃ q, k = q + 1 := ⟨k - 1, by omega⟩
    have e1 : ((m + 1 : Nat) : Int) - 1 = (m : Int) := by omega
    rw [e1]
    simp only [geyserref01_Wide.l0]
    have e2 : (v : Int).tdiv 256 = ((v / 256 : Nat) : Int) := by rw [Int.tdiv_eq_ediv_of_nonneg (by omega)]; omega
    have e3 : (v : Int).tmod 256 % 256 = ((v % 256 : Nat) : Int) := by rw [Int.tmod_eq_emod_of_nonneg (by omega)]; omega
    rw [if_pos (by omega), if_pos (by omega), if_pos (by omega), e2, e3, u64id (by omega) (by omega), Int.toNat_natCast, Gy.wrap64_id (by omega) (by omega), ih k (v / 256) _ (by rw [List.length_set]; omega) (by rw [List.length_set]; omega) (by omega) (by omega), wideN_succ, List.append_assoc]
    congr 2
    have h1 : m < (l.set m ((v % 256 : Nat) : Int)).length := by rw [List.length_set]; omega
    rw [List.drop_eq_getElem_cons h1, List.getElem_set_self, List.drop_set_of_lt (by omega)]
    rfl
theorem Wide_f {v n k : Nat} (hn : n ≤ 1000) (hv : v < 18446744073709551616) (hk : n < k) : geyserref01_Wide.f k (v : Int) (n : Int) = some (wideN v n) := by
  unfold geyserref01_Wide.f
  rw [if_pos (by omega), if_pos (by omega), Int.toNat_natCast, Gy.wrap64_id (by omega) (by omega)]
  have h := Wide_l0 n k v (List.replicate n 0) (by rw [List.length_replicate]; omega) (by rw [List.length_replicate]; omega) hv hk
  rw [h, List.drop_eq_nil_of_le (by rw [List.length_replicate]; omega), List.append_nil]
theorem Wide_calls (v n : Nat) (z : Int) (w : World) (hz : z = (n : Int)) (hn : n ≤ 1000) (hv : v < 18446744073709551616) :
    Calls Try.prog 13 #[.int .u64 (v : Int), .int .i64 z] w fun e w' => ∃ A' c', e = .returned (.slice A' n c') ∧ ReadsInt w' .u8 A' n (wideN v n) ∧ Below w.heap.size w w' := by
  subst hz
  refine (geyserref01_Wide.calls (n + 1) _ _ _ w (Wide_f hn hv (by omega))).mono ?_
  rintro e w' ⟨v0, rfl, hR, hB⟩
  obtain ⟨A', c', rfl, _, hC⟩ := Kd.R_reads hR
  have hr := Gy.reads_of_kd hC
  rw [wideN_length] at hr ⊢
  exact ⟨A', c', rfl, hr, hB⟩
end Go.Proofs.Ytnoebhnkkigkjaa.Dig
