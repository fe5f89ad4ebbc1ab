/- Inverses: the printed function is the plain one. -/
import Derived.Test.YtcmigmldecacpaaQInvx1
import Derived.Test.YtcmigmldecacpaaGf
import Derived.Test.YtcmigmldecacpaaBt
namespace Go.Proofs.Ytcmigmldecacpaa.Inv
open Go Go.RowKit Go.Proofs.Ytcmigmldecacpaa.QInv Go.Proofs.YtcmigmldecacpaaW.PrintWords Go.Proofs.YtcmigmldecacpaaW.PrintLast

theorem gmulAux_zero : ∀ (f s x : Nat), Gy.gmulAux f s x 0 = s := by
  intro f
  induction f with
  | zero => intro s x; rfl
  | succ f ih => intro s x; unfold Gy.gmulAux; rw [if_neg (by decide)]; exact ih _ _
theorem w2 {x : Nat} (h : x < 256) : wrap64 ((x : Int) * 2) = ((x * 2 : Nat) : Int) := by unfold wrap64; omega
theorem half (y : Nat) : (y : Int) / 2 = ((y / 2 : Nat) : Int) := by omega
theorem fm_l0 : ∀ (f s x y k : Nat), s < 256 → x < 256 → y < 2 ^ f → y < 256 → f < k → field_Mul.l0 k s x y = some ((Gy.gmulAux f s x y : Nat) : Int) := by
  intro f
  induction f with
  | zero =>
    intro s x y k hs hx hy _ hk
    obtain ⟨k, rfl⟩ : ∃ m, k = m + 1 := ⟨k - 1, by omega⟩
    obtain rfl : y = 0 := by simp at hy; omega
    simp only [field_Mul.l0]
    rw [if_neg (by omega)]
    show some ((s : Int) % 256) = some (s : Int)
    congr 1; omega
  | succ f ih =>
    intro s x y k hs hx hy hy2 hk
    obtain ⟨k, rfl⟩ : ∃ m, k = m + 1 := ⟨k - 1, by omega⟩
    by_cases h0 : y = 0
    · subst h0
      rw [gmulAux_zero]
      simp only [field_Mul.l0]
      rw [if_neg (by omega)]
      congr 1; omega
    · simp only [field_Mul.l0]
      rw [if_pos (by omega), Gy.i64_and1 y (by omega), w2 hx, Gy.i64_xor s x (by omega) (by omega), half]
      have e285 : Go.bits .xor .i64 ((x * 2 : Nat) : Int) 285 = ((((x * 2) ^^^ 285) : Nat) : Int) := Gy.i64_xor (x * 2) 285 (by omega) (by omega)
      rw [e285]
      have hxt := Gy.xt_lt hx
      have hsx := Gy.xor_lt8 hs hx
      have hy' : y / 2 < 2 ^ f := by rw [Nat.pow_succ] at hy; omega
      have hm : Gy.gmulAux (f + 1) s x y = Gy.gmulAux f (if y % 2 = 1 then s ^^^ x else s) (Gy.xt x) (y / 2) := rfl
      by_cases h1 : y % 2 = 1
      · rw [if_pos (by omega)]
        rw [if_pos h1] at hm
        by_cases h2 : x * 2 > 255
        · have ex : Gy.xt x = (x * 2) ^^^ 285 := by unfold Gy.xt; rw [if_pos h2]
          rw [if_pos (by omega), hm, ← ex]
          exact ih _ _ _ _ hsx hxt hy' (by omega) (by omega)
        · have ex : Gy.xt x = x * 2 := by unfold Gy.xt; rw [if_neg h2]
          rw [if_neg (by omega), hm, ← ex]
          exact ih _ _ _ _ hsx hxt hy' (by omega) (by omega)
      · rw [if_neg (by omega)]
        rw [if_neg h1] at hm
        by_cases h2 : x * 2 > 255
        · have ex : Gy.xt x = (x * 2) ^^^ 285 := by unfold Gy.xt; rw [if_pos h2]
          rw [if_pos (by omega), hm, ← ex]
          exact ih _ _ _ _ hs hxt hy' (by omega) (by omega)
        · have ex : Gy.xt x = x * 2 := by unfold Gy.xt; rw [if_neg h2]
          rw [if_neg (by omega), hm, ← ex]
          exact ih _ _ _ _ hs hxt hy' (by omega) (by omega)
theorem fmul {k : Nat} (hk : 9 ≤ k) {a b : Nat} (ha : a < 256) (hb : b < 256) : field_Mul.f k a b = some ((Gy.gmul a b : Nat) : Int) := by
  unfold field_Mul.f
  rw [Gy.wrap64_id (by omega) (by omega), Gy.wrap64_id (by omega) (by omega)]
  exact fm_l0 8 0 a b k (by omega) ha hb hb (by omega)
theorem fp_l0 : ∀ (f out a n k : Nat), out < 256 → a < 256 → n < 2 ^ f → n < 4294967296 → f + 9 < k → field_power.l0 k a n out = some ((Gy.powAux f out a n : Nat) : Int) := by
  intro f
  induction f with
  | zero =>
    intro out a n k ho ha hn _ hk
    obtain ⟨k, rfl⟩ : ∃ m, k = m + 1 := ⟨k - 1, by omega⟩
    obtain rfl : n = 0 := by simp at hn; omega
    simp only [field_power.l0]
    rw [if_neg (by omega)]
    rfl
  | succ f ih =>
    intro out a n k ho ha hn hn2 hk
    obtain ⟨k, rfl⟩ : ∃ m, k = m + 1 := ⟨k - 1, by omega⟩
    simp only [field_power.l0]
    by_cases h0 : n = 0
    · subst h0
      rw [if_neg (by omega)]
      unfold Gy.powAux
      rw [if_pos rfl]
    · have hn' : n / 2 < 2 ^ f := by rw [Nat.pow_succ] at hn; omega
      rw [if_pos (by omega), Gy.i64_and1 n (by omega), fmul (by omega) ho ha, fmul (by omega) ha ha, half]
      simp only [Option.bind_some]
      have hm : Gy.powAux (f + 1) out a n = Gy.powAux f (if n % 2 = 1 then Gy.gmul out a else out) (Gy.gmul a a) (n / 2) := by
        conv => lhs; unfold Gy.powAux
        rw [if_neg h0]
      by_cases h1 : n % 2 = 1
      · rw [if_pos (by omega), hm, if_pos h1]
        exact ih _ _ _ _ (Gy.gmul_lt ho ha) (Gy.gmul_lt ha ha) hn' (by omega) (by omega)
      · rw [if_neg (by omega), hm, if_neg h1]
        exact ih _ _ _ _ ho (Gy.gmul_lt ha ha) hn' (by omega) (by omega)
theorem fpower {k : Nat} (hk : 18 ≤ k) {a n : Nat} (ha : a < 256) (hn : n < 256) : field_power.f k a n = some ((Gy.gpow a n : Nat) : Int) := by
  unfold field_power.f
  have h := fp_l0 8 1 a n k (by omega) ha hn (by omega) (by omega)
  rw [Gy.powAux_eq 8 1 a n (by omega) ha hn, Gy.gmul_one_left (Gy.gpow_lt ha n)] at h
  exact h
theorem inv_calls (a : Nat) (w : World) (ha : a < 256) : Calls Try.prog 79 #[.int .u8 a] w fun e w' => e = .returned (.int .u8 (Gy.ginv a : Nat)) ∧ Below w.heap.size w w' := by
  have h : field_Inv.f 300 a = some ((Gy.ginv a : Nat) : Int) := by
    unfold field_Inv.f
    have e254 : field_power.f 300 a 254 = some ((Gy.ginv a : Nat) : Int) := fpower (by omega) ha (n := 254) (by omega)
    rw [e254]
    rfl
  exact (field_Inv.calls 300 a _ w h).mono fun _ _ h => ⟨h.1, h.2.below⟩
end Go.Proofs.Ytcmigmldecacpaa.Inv
