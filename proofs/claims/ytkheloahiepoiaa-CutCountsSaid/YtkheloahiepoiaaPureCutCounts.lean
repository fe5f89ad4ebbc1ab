/- How many slices any bytes are is what the document says. No condition beyond the kinds of the arguments. -/
import Derived.Test.YtkheloahiepoiaaPCutCountsx1
import Derived.Test.YtkheloahiepoiaaBt
namespace Go.Proofs.Ytkheloahiepoiaa.Pure
open Go Go.RowKit Go.Proofs.Ytkheloahiepoiaa.PCutCounts Go.Proofs.YtkheloahiepoiaaW.PrintWords Go.Proofs.YtkheloahiepoiaaW.PrintLast

theorem CutCounts : geyserlaw16_CutCounts.Pure := by
  intro a0 a1 h0 h1
  have b0 := Gy.wf_i64 h0
  have b1 := Gy.wf_i64 h1
  obtain ⟨k, hk⟩ : ∃ k : Nat, 20 ≤ k := ⟨20, Nat.le_refl _⟩
  refine ⟨k, ?_⟩
  obtain ⟨k, rfl⟩ : ∃ m, k = m + 1 := ⟨k - 1, by omega⟩
  unfold geyserlaw16_CutCounts.f
  have ha : geyserlaw16_awake.f = some true := by decide +kernel
  rw [ha]
  simp only [Option.bind_some, if_true]
  unfold cut_Count.f packet_Count.f geyserref14_Count.f
  by_cases c0 : a0 < 1
  · rw [if_pos c0, if_pos c0]
    simp only [geyserref14_Count.j0, Option.bind_some, if_true]
    rfl
  · rw [if_neg c0, if_neg c0]
    by_cases c1 : a1 < 1
    · rw [if_pos c1, if_pos c1]
      simp only [geyserref14_Count.j0, Option.bind_some, if_true]
      rfl
    · rw [if_neg c1, if_neg c1]
      by_cases c2 : a1 > 256
      · rw [if_pos c2]
        simp only [geyserref14_Count.j0, Option.bind_some, c2, decide_true, if_true]
        rfl
      · rw [if_neg c2, if_neg (by omega)]
        simp only [geyserref14_Count.j0, Option.bind_some, c2, decide_false]
        rw [if_neg (by decide), if_neg (by omega)]
        have d0 : 0 < a1 := by omega
        rw [Gy.wrap64_id (n := a0 - 1) (by omega) (by omega), Int.tdiv_eq_ediv_of_nonneg (by omega), Int.tdiv_eq_ediv_of_nonneg (by omega), Int.tmod_eq_emod_of_nonneg (by omega)]
        have hq0 : 0 ≤ (a0 - 1) / a1 := Int.ediv_nonneg (by omega) (by omega)
        have hq1 : (a0 - 1) / a1 ≤ a0 - 1 := Int.ediv_le_self _ (by omega)
        have hr0 : 0 ≤ a0 / a1 := Int.ediv_nonneg (by omega) (by omega)
        have hr1 : a0 / a1 ≤ a0 := Int.ediv_le_self _ (by omega)
        have m0 := Int.emod_nonneg a0 (show a1 ≠ 0 by omega)
        have m1 := Int.emod_lt_of_pos a0 d0
        have dm := Int.mul_ediv_add_emod a0 a1
        rw [Gy.wrap64_id (n := (a0 - 1) / a1) (by omega) (by omega), Gy.wrap64_id (n := (a0 - 1) / a1 + 1) (by omega) (by omega), Gy.wrap64_id (n := a0 / a1) (by omega) (by omega)]
        have key : (a0 - 1) / a1 + 1 = if a0 % a1 > 0 then a0 / a1 + 1 else a0 / a1 := by
          split
          · rename_i hm
            have e : a0 - 1 = (a0 % a1 - 1) + a1 * (a0 / a1) := by omega
            rw [e, Int.add_mul_ediv_left _ _ (by omega), Int.ediv_eq_zero_of_lt (by omega) (by omega)]; omega
          · rename_i hm
            have e : a0 - 1 = (a1 - 1) + a1 * (a0 / a1 - 1) := by rw [Int.mul_sub]; omega
            rw [e, Int.add_mul_ediv_left _ _ (by omega), Int.ediv_eq_zero_of_lt (by omega) (by omega)]; omega
        by_cases c3 : a0 % a1 > 0
        · have hp : a0 / a1 < 9223372036854775807 ∨ a1 = 1 := by
            by_cases e1 : a1 = 1
            · exact .inr e1
            · left
              have h2 : a0 / a1 ≤ a0 / 2 := by
                apply Int.le_ediv_of_mul_le (by omega)
                have : a0 / a1 * 2 ≤ a0 / a1 * a1 := Int.mul_le_mul_of_nonneg_left (by omega) hr0
                have c := Int.mul_comm (a0 / a1) a1
                omega
              omega
          have hlt : a0 / a1 < 9223372036854775807 := by
            rcases hp with h | h
            · exact h
            · subst h; omega
          rw [if_pos c3, Gy.wrap64_id (by omega) (by omega), Option.bind_some]
          rw [key, if_pos c3]; simp
        · rw [if_neg c3, Option.bind_some, key, if_neg c3]; simp

end Go.Proofs.Ytkheloahiepoiaa.Pure
