/- Any range of IDs is what the document says, or refused. No condition beyond the kinds of the arguments. -/
import Derived.Test.YtkheloahiepoiaaQVolumeRangesx1
import Derived.Test.YtkheloahiepoiaaBt
namespace Go.Proofs.Ytkheloahiepoiaa.Pure
open Go Go.RowKit Go.Proofs.Ytkheloahiepoiaa.QVolumeRanges Go.Proofs.YtkheloahiepoiaaW.PrintWords Go.Proofs.YtkheloahiepoiaaW.PrintLast

/-- so many numbers from one on -/
def rng (a : Nat) (n : Nat) : List Int := (List.range n).map fun i => (((a + i) % 4294967296 : Nat) : Int)
theorem rng_succ (a n : Nat) : rng a (n + 1) = rng a n ++ [(((a + n) % 4294967296 : Nat) : Int)] := by
  unfold rng; rw [List.range_succ, List.map_append]; rfl
theorem rng_length (a n : Nat) : (rng a n).length = n := by simp [rng]
theorem rng_get (a n i : Nat) (h : i < n) : rd (rng a n) (i : Int) = (((a + i) % 4294967296 : Nat) : Int) := by
  unfold rd rng
  rw [Int.toNat_natCast, List.getD_eq_getElem?_getD]
  simp [h]
theorem mk_l0 : ∀ (d a n i k : Nat), n ≤ 64 → i + d = n → d < k → volume_Range.l0 k a (rng a i) n i = some (rng a n, 0) := by
  intro d
  induction d with
  | zero =>
    intro a n i k hn hi hk
    obtain ⟨k, rfl⟩ : ∃ m, k = m + 1 := ⟨k - 1, by omega⟩
    simp only [volume_Range.l0]
    rw [if_neg (by omega)]
    obtain rfl : i = n := by omega
    rfl
  | succ d ih =>
    intro a n i k hn hi hk
    obtain ⟨k, rfl⟩ : ∃ m, k = m + 1 := ⟨k - 1, by omega⟩
    simp only [volume_Range.l0]
    rw [if_pos (by omega), if_pos (by rw [rng_length]; omega), Gy.wrap64_id (by omega) (by omega)]
    have e1 : ((i : Int) + 1) = ((i + 1 : Nat) : Int) := by omega
    have e2 : ((a : Int) + (i : Int)) % 4294967296 = (((a + i) % 4294967296 : Nat) : Int) := by omega
    rw [e1, e2, ← rng_succ]
    exact ih a n (i + 1) k hn (by omega) (by omega)
theorem ck_l0 : ∀ (d a n i k : Nat), n ≤ 64 → i + d = n → d < k → geyserlaw17_VolumeRanges.l0 k a n (rng a n) 0 n i = some true := by
  intro d
  induction d with
  | zero =>
    intro a n i k hn hi hk
    obtain ⟨k, rfl⟩ : ∃ m, k = m + 1 := ⟨k - 1, by omega⟩
    simp only [geyserlaw17_VolumeRanges.l0]
    rw [if_neg (by omega)]
    simp [rng_length]
  | succ d ih =>
    intro a n i k hn hi hk
    obtain ⟨k, rfl⟩ : ∃ m, k = m + 1 := ⟨k - 1, by omega⟩
    simp only [geyserlaw17_VolumeRanges.l0]
    have e2 : ((a : Int) + (i : Int)) % 4294967296 = (((a + i) % 4294967296 : Nat) : Int) := by omega
    rw [if_pos (by omega), if_pos (by omega), if_pos (by rw [rng_length]; omega), rng_get a n i (by omega), e2, if_pos rfl, Gy.wrap64_id (by omega) (by omega)]
    have e1 : ((i : Int) + 1) = ((i + 1 : Nat) : Int) := by omega
    rw [e1]
    exact ih a n (i + 1) k hn (by omega) (by omega)
theorem range_f {k a : Nat} {n : Int} (ha : a < 4294967296) (h0 : -9223372036854775808 ≤ n) (h1 : n ≤ 9223372036854775807) (hk : 80 ≤ k) :
    volume_Range.f k a n = some (if n < 1 ∨ n + a > 4294967296 then ([], 1) else if n > 64 then ([], 5) else (rng a n.toNat, 0)) := by
  obtain ⟨k, rfl⟩ : ∃ m, k = m + 1 := ⟨k - 1, by omega⟩
  unfold volume_Range.f
  by_cases c0 : n < 1
  · rw [if_pos c0, if_pos (.inl c0)]
    simp only [volume_Range.j0, if_true]
  · rw [if_neg c0, Gy.wrap64_id (n := n - 1) (by omega) (by omega), Gy.wrap64_id (n := (a : Int)) (by omega) (by omega), Gy.wrap64_id (n := 4294967295 - (a : Int)) (by omega) (by omega)]
    by_cases c1 : n - 1 > 4294967295 - (a : Int)
    · rw [if_pos (.inr (by omega))]
      simp only [volume_Range.j0, c1, decide_true, if_true]
    · rw [if_neg (by omega)]
      simp only [volume_Range.j0, c1, decide_false]
      rw [if_neg (by decide)]
      by_cases c2 : n > 64
      · rw [if_pos c2, if_pos c2]
      · rw [if_neg c2, if_neg c2]
        have h := mk_l0 n.toNat a n.toNat 0 k (by omega) (by omega) (by omega)
        rw [show (n.toNat : Int) = n from by omega] at h
        exact h
theorem VolumeRanges : geyserlaw17_VolumeRanges.Pure := by
  intro a0 n h0 h1
  obtain ⟨a, rfl, ha⟩ := Gy.wf_u32 h0
  have b1 := Gy.wf_i64 h1
  obtain ⟨k, hk⟩ : ∃ k : Nat, 100 ≤ k := ⟨100, Nat.le_refl _⟩
  refine ⟨k, ?_⟩
  have hw : geyserlaw17_awake.f k = some true := by
    unfold geyserlaw17_awake.f
    rw [show (5 : Int) = ((5 : Nat) : Int) from rfl, range_f (by omega) (by omega) (by omega) (by omega), Option.bind_some]
    decide +kernel
  unfold geyserlaw17_VolumeRanges.f
  rw [hw]
  simp only [Option.bind_some, if_true]
  rw [range_f ha b1.1 b1.2 (by omega), Option.bind_some]
  obtain ⟨k, rfl⟩ : ∃ m, k = m + 1 := ⟨k - 1, by omega⟩
  have ew : ∀ x : Int, IntKind.u64.wrap x = x % 18446744073709551616 := fun x => by simp [IntKind.wrap, IntKind.bits, IntKind.signed]
  by_cases c0 : n < 1
  · rw [if_pos c0, if_pos (.inl c0)]
    simp only [geyserlaw17_VolumeRanges.j0, if_true]
    rfl
  · rw [if_neg c0]
    have e : IntKind.u64.wrap (IntKind.u64.wrap n + IntKind.u64.wrap (a : Int)) = n + a := by rw [ew, ew, ew]; omega
    rw [e]
    by_cases c1 : n + a > 4294967296
    · rw [if_pos (.inr c1)]
      simp only [geyserlaw17_VolumeRanges.j0, c1, decide_true, if_true]
      rfl
    · rw [if_neg (by omega)]
      simp only [geyserlaw17_VolumeRanges.j0, c1, decide_false]
      rw [if_neg (by decide)]
      by_cases c2 : n > 64
      · rw [if_pos c2, if_pos c2]
        rfl
      · rw [if_neg c2, if_neg c2]
        have h := ck_l0 n.toNat a n.toNat 0 k (by omega) (by omega) (by omega)
        simp only [rng_length]
        rw [show (n.toNat : Int) = n from by omega] at h
        rw [show (n.toNat : Int) = n from by omega]
        exact h

end Go.Proofs.Ytkheloahiepoiaa.Pure
