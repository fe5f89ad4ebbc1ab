/- Any number but 0 times its inverse is 1. No condition beyond the kind of the argument. -/
import Derived.Test.YtkheloahiepoiaaPFieldInvsx1
import Derived.Test.YtkheloahiepoiaaGf
import Derived.Test.YtkheloahiepoiaaBt
namespace Go.Proofs.Ytkheloahiepoiaa.Pure
open Go Go.RowKit Go.Proofs.Ytkheloahiepoiaa.PFieldInvs Go.Proofs.YtkheloahiepoiaaW.PrintWords Go.Proofs.YtkheloahiepoiaaW.PrintLast

theorem gmulAux_zero : ∀ (f s x : Nat), Gy.gmulAux f s x 0 = s := by
  intro f
  induction f with
  | zero => intro s x; rfl
  | succ f ih => intro s x; unfold Gy.gmulAux; rw [if_neg (by decide)]; exact ih _ _
theorem w2 {x : Nat} (h : x < 256) : wrap64 ((x : Int) * 2) = ((x * 2 : Nat) : Int) := by unfold wrap64; omega
theorem half (y : Nat) : (y : Int) / 2 = ((y / 2 : Nat) : Int) := by omega
theorem fm_l0 : ∀ (f s x y k : Nat), s < 256 → x < 256 → y < 2 ^ f → y < 256 → f < k → field_Mul.l0 k s x y = some ((Gy.gmulAux f s x y : Nat) : Int) := by
  intro f
  induction f with
  | zero =>
    intro s x y k hs hx hy _ hk
    obtain ⟨k, rfl⟩ : ∃ m, k = m + 1 := ⟨k - 1, by omega⟩
    obtain rfl : y = 0 := by simp at hy; omega
    simp only [field_Mul.l0]
    rw [if_neg (by omega)]
    show some ((s : Int) % 256) = some (s : Int)
    congr 1; omega
  | succ f ih =>
    intro s x y k hs hx hy hy2 hk
    obtain ⟨k, rfl⟩ : ∃ m, k = m + 1 := ⟨k - 1, by omega⟩
    by_cases h0 : y = 0
    · subst h0
      rw [gmulAux_zero]
      simp only [field_Mul.l0]
      rw [if_neg (by omega)]
      congr 1; omega
    · simp only [field_Mul.l0]
      rw [if_pos (by omega), Gy.i64_and1 y (by omega), w2 hx, Gy.i64_xor s x (by omega) (by omega), half]
      have e285 : Go.bits .xor .i64 ((x * 2 : Nat) : Int) 285 = ((((x * 2) ^^^ 285) : Nat) : Int) := Gy.i64_xor (x * 2) 285 (by omega) (by omega)
      rw [e285]
      have hxt := Gy.xt_lt hx
      have hsx := Gy.xor_lt8 hs hx
      have hy' : y / 2 < 2 ^ f := by rw [Nat.pow_succ] at hy; omega
      have hm : Gy.gmulAux (f + 1) s x y = Gy.gmulAux f (if y % 2 = 1 then s ^^^ x else s) (Gy.xt x) (y / 2) := rfl
      by_cases h1 : y % 2 = 1
      · rw [if_pos (by omega)]
        rw [if_pos h1] at hm
        by_cases h2 : x * 2 > 255
        · have ex : Gy.xt x = (x * 2) ^^^ 285 := by unfold Gy.xt; rw [if_pos h2]
          rw [if_pos (by omega), hm, ← ex]
          exact ih _ _ _ _ hsx hxt hy' (by omega) (by omega)
        · have ex : Gy.xt x = x * 2 := by unfold Gy.xt; rw [if_neg h2]
          rw [if_neg (by omega), hm, ← ex]
          exact ih _ _ _ _ hsx hxt hy' (by omega) (by omega)
      · rw [if_neg (by omega)]
        rw [if_neg h1] at hm
        by_cases h2 : x * 2 > 255
        · have ex : Gy.xt x = (x * 2) ^^^ 285 := by unfold Gy.xt; rw [if_pos h2]
          rw [if_pos (by omega), hm, ← ex]
          exact ih _ _ _ _ hs hxt hy' (by omega) (by omega)
        · have ex : Gy.xt x = x * 2 := by unfold Gy.xt; rw [if_neg h2]
          rw [if_neg (by omega), hm, ← ex]
          exact ih _ _ _ _ hs hxt hy' (by omega) (by omega)
theorem fmul {k : Nat} (hk : 9 ≤ k) {a b : Nat} (ha : a < 256) (hb : b < 256) : field_Mul.f k a b = some ((Gy.gmul a b : Nat) : Int) := by
  unfold field_Mul.f
  rw [Gy.wrap64_id (by omega) (by omega), Gy.wrap64_id (by omega) (by omega)]
  exact fm_l0 8 0 a b k (by omega) ha hb hb (by omega)
theorem fawake {k : Nat} (hk : 9 ≤ k) : geyserlaw03_awake.f k = some true := by
  unfold geyserlaw03_awake.f
  rw [show ((2 : Int)) = ((2 : Nat) : Int) from rfl, show ((128 : Int)) = ((128 : Nat) : Int) from rfl, fmul hk (by omega) (by omega)]
  decide
theorem shr_u8 (b : Nat) (i : Nat) (hi : i < 8) : shr .u8 (b : Int) (IntKind.u64.wrap (i : Int)) = ((b / 2 ^ i : Nat) : Int) := by
  unfold shr
  rw [Gy.u64_wrap_id (by omega) (by omega)]
  have e : min ((i : Int)).toNat (IntKind.bits .u8) = i := by show min i 8 = i; omega
  rw [e]
  norm_cast
theorem pow_lt8 {i : Nat} (h : i < 8) : 2 ^ i ≤ 128 := by
  have : 2 ^ i ≤ 2 ^ 7 := Nat.pow_le_pow_right (by omega) (by omega)
  exact this
theorem shl_i64 {a : Nat} (ha : a < 512) (i : Nat) (hi : i < 8) : shl .i64 (a : Int) (IntKind.u64.wrap (i : Int)) = ((a * 2 ^ i : Nat) : Int) := by
  unfold shl
  rw [Gy.u64_wrap_id (by omega) (by omega)]
  have e : min ((i : Int)).toNat (IntKind.bits .i64) = i := by show min i 64 = i; omega
  rw [e]
  have h1 := pow_lt8 hi
  have h2 : a * 2 ^ i ≤ 511 * 128 := Nat.mul_le_mul (by omega) h1
  have e2 : (a : Int) * 2 ^ i = ((a * 2 ^ i : Nat) : Int) := by norm_cast
  rw [e2, Gy.wrapI64]
  omega
theorem shr_i64 (v : Nat) (i : Nat) (hi : i < 64) : shr .i64 (v : Int) (IntKind.u64.wrap (i : Int)) = ((v / 2 ^ i : Nat) : Int) := by
  unfold shr
  rw [Gy.u64_wrap_id (by omega) (by omega)]
  have e : min ((i : Int)).toNat (IntKind.bits .i64) = i := by show min i 64 = i; omega
  rw [e]
  norm_cast
theorem rm_l1 : ∀ (f v k : Nat), f ≤ 7 → v < 2 ^ 20 → f < k → geyserref03_Mul.l1 k v ((f : Int) + 7) = some ((Gy.rmulR f v % 256 : Nat) : Int) := by
  intro f
  induction f with
  | zero =>
    intro v k _ hv hk
    obtain ⟨k, rfl⟩ : ∃ m, k = m + 1 := ⟨k - 1, by omega⟩
    simp only [geyserref03_Mul.l1]
    rw [if_neg (by omega)]
    rfl
  | succ f ih =>
    intro v k hf hv hk
    obtain ⟨k, rfl⟩ : ∃ m, k = m + 1 := ⟨k - 1, by omega⟩
    have e8 : ((f + 1 : Nat) : Int) + 7 = ((f + 8 : Nat) : Int) := by omega
    rw [e8]
    simp only [geyserref03_Mul.l1]
    rw [if_pos (by omega), if_pos (by rw [Gy.u64_wrap_id (by omega) (by omega)]; omega)]
    rw [shr_i64 v (f + 8) (by omega), Gy.i64_and1 _ (Nat.lt_of_le_of_lt (Nat.div_le_self _ _) (by omega))]
    have em1 : wrap64 (((f + 8 : Nat) : Int) - 1) = (f : Int) + 7 := by rw [Gy.wrap64_id (by omega) (by omega)]; omega
    have em8 : wrap64 (((f + 8 : Nat) : Int) - 8) = (f : Int) := by rw [Gy.wrap64_id (by omega) (by omega)]; omega
    rw [em1, em8]
    have hm : Gy.rmulR (f + 1) v = Gy.rmulR f (if (v / 2 ^ (f + 8)) % 2 = 1 then v ^^^ (285 * 2 ^ f) else v) := rfl
    have e285 : shl .i64 (285 : Int) (IntKind.u64.wrap (f : Int)) = ((285 * 2 ^ f : Nat) : Int) := shl_i64 (a := 285) (by omega) f (by omega)
    have hp := pow_lt8 (i := f) (by omega)
    rw [e285, Gy.i64_xor v (285 * 2 ^ f) (by omega) (by omega)]
    by_cases h1 : (v / 2 ^ (f + 8)) % 2 = 1
    · rw [if_pos (by omega), if_pos (by rw [Gy.u64_wrap_id (by omega) (by omega)]; omega), hm, if_pos h1]
      exact ih _ _ (by omega) (Gy.xor_lt 20 hv (by omega)) (by omega)
    · rw [if_neg (by omega), hm, if_neg h1]
      exact ih _ _ (by omega) hv (by omega)
theorem rm_l0 : ∀ (f i : Nat) (a b v k : Nat), f + i = 8 → a < 256 → b < 256 → v < 2 ^ 20 → f + 9 < k →
    geyserref03_Mul.l0 k a b v i = some ((Gy.rmulR 7 (Gy.rmulV f a b v i) % 256 : Nat) : Int) := by
  intro f
  induction f with
  | zero =>
    intro i a b v k hi ha hb hv hk
    obtain ⟨k, rfl⟩ : ∃ m, k = m + 1 := ⟨k - 1, by omega⟩
    simp only [geyserref03_Mul.l0]
    rw [if_neg (by omega)]
    exact rm_l1 7 v k (by omega) hv (by omega)
  | succ f ih =>
    intro i a b v k hi ha hb hv hk
    obtain ⟨k, rfl⟩ : ∃ m, k = m + 1 := ⟨k - 1, by omega⟩
    simp only [geyserref03_Mul.l0]
    rw [if_pos (by omega), if_pos (by rw [Gy.u64_wrap_id (by omega) (by omega)]; omega)]
    rw [shr_u8 b i (by omega), Gy.u8_and1 _ (Nat.lt_of_le_of_lt (Nat.div_le_self _ _) hb)]
    have e1 : wrap64 ((i : Int) + 1) = ((i + 1 : Nat) : Int) := by rw [Gy.wrap64_id (by omega) (by omega)]; omega
    rw [e1, Gy.wrap64_id (by omega) (by omega), shl_i64 (by omega) i (by omega)]
    have hp := pow_lt8 (i := i) (by omega)
    have hav : a * 2 ^ i ≤ 255 * 128 := Nat.mul_le_mul (by omega) hp
    rw [Gy.i64_xor v (a * 2 ^ i) (by omega) (by omega)]
    have hm : Gy.rmulV (f + 1) a b v i = Gy.rmulV f a b (if (b / 2 ^ i) % 2 = 1 then v ^^^ (a * 2 ^ i) else v) (i + 1) := rfl
    by_cases h1 : (b / 2 ^ i) % 2 = 1
    · rw [if_pos (by omega), hm, if_pos h1]
      exact ih _ _ _ _ _ (by omega) ha hb (Gy.xor_lt 20 hv (by omega)) (by omega)
    · rw [if_neg (by omega), hm, if_neg h1]
      exact ih _ _ _ _ _ (by omega) ha hb hv (by omega)
theorem rmul_def (a b : Nat) : Gy.rmul a b = Gy.rmulR 7 (Gy.rmulV 8 a b 0 0) % 256 := by unfold Gy.rmul; rfl
theorem rmul {k : Nat} (hk : 18 ≤ k) {a b : Nat} (ha : a < 256) (hb : b < 256) : geyserref03_Mul.f k a b = some ((Gy.gmul a b : Nat) : Int) := by
  have h := rm_l0 8 0 a b 0 k (by omega) ha hb (by omega) (by omega)
  rw [← rmul_def, Gy.rmul_eq ha hb] at h
  exact h
theorem fp_l0 : ∀ (f out a n k : Nat), out < 256 → a < 256 → n < 2 ^ f → n < 4294967296 → f + 9 < k → field_power.l0 k a n out = some ((Gy.powAux f out a n : Nat) : Int) := by
  intro f
  induction f with
  | zero =>
    intro out a n k ho ha hn _ hk
    obtain ⟨k, rfl⟩ : ∃ m, k = m + 1 := ⟨k - 1, by omega⟩
    obtain rfl : n = 0 := by simp at hn; omega
    simp only [field_power.l0]
    rw [if_neg (by omega)]
    rfl
  | succ f ih =>
    intro out a n k ho ha hn hn2 hk
    obtain ⟨k, rfl⟩ : ∃ m, k = m + 1 := ⟨k - 1, by omega⟩
    simp only [field_power.l0]
    by_cases h0 : n = 0
    · subst h0
      rw [if_neg (by omega)]
      unfold Gy.powAux
      rw [if_pos rfl]
    · have hn' : n / 2 < 2 ^ f := by rw [Nat.pow_succ] at hn; omega
      rw [if_pos (by omega), Gy.i64_and1 n (by omega), fmul (by omega) ho ha, fmul (by omega) ha ha, half]
      simp only [Option.bind_some]
      have hm : Gy.powAux (f + 1) out a n = Gy.powAux f (if n % 2 = 1 then Gy.gmul out a else out) (Gy.gmul a a) (n / 2) := by
        conv => lhs; unfold Gy.powAux
        rw [if_neg h0]
      by_cases h1 : n % 2 = 1
      · rw [if_pos (by omega), hm, if_pos h1]
        exact ih _ _ _ _ (Gy.gmul_lt ho ha) (Gy.gmul_lt ha ha) hn' (by omega) (by omega)
      · rw [if_neg (by omega), hm, if_neg h1]
        exact ih _ _ _ _ ho (Gy.gmul_lt ha ha) hn' (by omega) (by omega)
theorem fpower {k : Nat} (hk : 18 ≤ k) {a n : Nat} (ha : a < 256) (hn : n < 256) : field_power.f k a n = some ((Gy.gpow a n : Nat) : Int) := by
  unfold field_power.f
  have h := fp_l0 8 1 a n k (by omega) ha hn (by omega) (by omega)
  rw [Gy.powAux_eq 8 1 a n (by omega) ha hn, Gy.gmul_one_left (Gy.gpow_lt ha n)] at h
  exact h
theorem FieldInvs : geyserlaw03_FieldInvs.Pure := by
  intro a0 h0
  obtain ⟨a, rfl, ha⟩ := Gy.wf_u8 h0
  obtain ⟨k, hk⟩ : ∃ k : Nat, 300 ≤ k := ⟨300, Nat.le_refl _⟩
  refine ⟨k, ?_⟩
  unfold geyserlaw03_FieldInvs.f
  rw [fawake (by omega)]
  simp only [Option.bind_some, if_true]
  unfold field_Inv.f
  have e254 : field_power.f k a 254 = some ((Gy.ginv a : Nat) : Int) := fpower (by omega) ha (n := 254) (by omega)
  rw [e254]
  simp only [Option.bind_some]
  by_cases h : a = 0
  · rw [if_pos (by omega)]
    have e : Gy.ginv a = 0 := by rw [h]; exact Gy.ginv_zero
    rw [e]; rfl
  · rw [if_neg (by omega), rmul (by omega) ha (Gy.ginv_lt ha), Gy.gmul_ginv ha h]
    rfl

end Go.Proofs.Ytkheloahiepoiaa.Pure
