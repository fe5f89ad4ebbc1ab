/- The reference's inverse, by looking, is the inverse. -/
import Derived.Test.YtcmigmldecacpaaQRInvx1
import Derived.Test.YtcmigmldecacpaaGf
import Derived.Test.YtcmigmldecacpaaBt
namespace Go.Proofs.Ytcmigmldecacpaa.Pure
open Go Go.RowKit Go.Proofs.Ytcmigmldecacpaa.QRInv Go.Proofs.YtcmigmldecacpaaW.PrintWords Go.Proofs.YtcmigmldecacpaaW.PrintLast

theorem shr_u8 (b : Nat) (i : Nat) (hi : i < 8) : shr .u8 (b : Int) (IntKind.u64.wrap (i : Int)) = ((b / 2 ^ i : Nat) : Int) := by
  unfold shr
  rw [Gy.u64_wrap_id (by omega) (by omega)]
  have e : min ((i : Int)).toNat (IntKind.bits .u8) = i := by show min i 8 = i; omega
  rw [e]
  norm_cast
theorem pow_lt8 {i : Nat} (h : i < 8) : 2 ^ i ≤ 128 := by
  have : 2 ^ i ≤ 2 ^ 7 := Nat.pow_le_pow_right (by omega) (by omega)
  exact this
theorem shl_i64 {a : Nat} (ha : a < 512) (i : Nat) (hi : i < 8) : shl .i64 (a : Int) (IntKind.u64.wrap (i : Int)) = ((a * 2 ^ i : Nat) : Int) := by
  unfold shl
  rw [Gy.u64_wrap_id (by omega) (by omega)]
  have e : min ((i : Int)).toNat (IntKind.bits .i64) = i := by show min i 64 = i; omega
  rw [e]
  have h1 := pow_lt8 hi
  have h2 : a * 2 ^ i ≤ 511 * 128 := Nat.mul_le_mul (by omega) h1
  have e2 : (a : Int) * 2 ^ i = ((a * 2 ^ i : Nat) : Int) := by norm_cast
  rw [e2, Gy.wrapI64]
  omega
theorem shr_i64 (v : Nat) (i : Nat) (hi : i < 64) : shr .i64 (v : Int) (IntKind.u64.wrap (i : Int)) = ((v / 2 ^ i : Nat) : Int) := by
  unfold shr
  rw [Gy.u64_wrap_id (by omega) (by omega)]
  have e : min ((i : Int)).toNat (IntKind.bits .i64) = i := by show min i 64 = i; omega
  rw [e]
  norm_cast
theorem rm_l1 : ∀ (f v k : Nat), f ≤ 7 → v < 2 ^ 20 → f < k → geyserref03_Mul.l1 k v ((f : Int) + 7) = some ((Gy.rmulR f v % 256 : Nat) : Int) := by
  intro f
  induction f with
  | zero =>
    intro v k _ hv hk
    obtain ⟨k, rfl⟩ : ∃ m, k = m + 1 := ⟨k - 1, by omega⟩
    simp only [geyserref03_Mul.l1]
    rw [if_neg (by omega)]
    rfl
  | succ f ih =>
    intro v k hf hv hk
    obtain ⟨k, rfl⟩ : ∃ m, k = m + 1 := ⟨k - 1, by omega⟩
    have e8 : ((f + 1 : Nat) : Int) + 7 = ((f + 8 : Nat) : Int) := by omega
    rw [e8]
    simp only [geyserref03_Mul.l1]
    rw [if_pos (by omega), if_pos (by rw [Gy.u64_wrap_id (by omega) (by omega)]; omega)]
    rw [shr_i64 v (f + 8) (by omega), Gy.i64_and1 _ (Nat.lt_of_le_of_lt (Nat.div_le_self _ _) (by omega))]
    have em1 : wrap64 (((f + 8 : Nat) : Int) - 1) = (f : Int) + 7 := by rw [Gy.wrap64_id (by omega) (by omega)]; omega
    have em8 : wrap64 (((f + 8 : Nat) : Int) - 8) = (f : Int) := by rw [Gy.wrap64_id (by omega) (by omega)]; omega
    rw [em1, em8]
    have hm : Gy.rmulR (f + 1) v = Gy.rmulR f (if (v / 2 ^ (f + 8)) % 2 = 1 then v ^^^ (285 * 2 ^ f) else v) := rfl
    have e285 : shl .i64 (285 : Int) (IntKind.u64.wrap (f : Int)) = ((285 * 2 ^ f : Nat) : Int) := shl_i64 (a := 285) (by omega) f (by omega)
    have hp := pow_lt8 (i := f) (by omega)
    rw [e285, Gy.i64_xor v (285 * 2 ^ f) (by omega) (by omega)]
    by_cases h1 : (v / 2 ^ (f + 8)) % 2 = 1
    · rw [if_pos (by omega), if_pos (by rw [Gy.u64_wrap_id (by omega) (by omega)]; omega), hm, if_pos h1]
      exact ih _ _ (by omega) (Gy.xor_lt 20 hv (by omega)) (by omega)
    · rw [if_neg (by omega), hm, if_neg h1]
      exact ih _ _ (by omega) hv (by omega)
theorem rm_l0 : ∀ (f i : Nat) (a b v k : Nat), f + i = 8 → a < 256 → b < 256 → v < 2 ^ 20 → f + 9 < k →
    geyserref03_Mul.l0 k a b v i = some ((Gy.rmulR 7 (Gy.rmulV f a b v i) % 256 : Nat) : Int) := by
  intro f
  induction f with
  | zero =>
    intro i a b v k hi ha hb hv hk
    obtain ⟨k, rfl⟩ : ∃ m, k = m + 1 := ⟨k - 1, by omega⟩
    simp only [geyserref03_Mul.l0]
    rw [if_neg (by omega)]
    exact rm_l1 7 v k (by omega) hv (by omega)
  | succ f ih =>
    intro i a b v k hi ha hb hv hk
    obtain ⟨k, rfl⟩ : ∃ m, k = m + 1 := ⟨k - 1, by omega⟩
    simp only [geyserref03_Mul.l0]
    rw [if_pos (by omega), if_pos (by rw [Gy.u64_wrap_id (by omega) (by omega)]; omega)]
    rw [shr_u8 b i (by omega), Gy.u8_and1 _ (Nat.lt_of_le_of_lt (Nat.div_le_self _ _) hb)]
    have e1 : wrap64 ((i : Int) + 1) = ((i + 1 : Nat) : Int) := by rw [Gy.wrap64_id (by omega) (by omega)]; omega
    rw [e1, Gy.wrap64_id (by omega) (by omega), shl_i64 (by omega) i (by omega)]
    have hp := pow_lt8 (i := i) (by omega)
    have hav : a * 2 ^ i ≤ 255 * 128 := Nat.mul_le_mul (by omega) hp
    rw [Gy.i64_xor v (a * 2 ^ i) (by omega) (by omega)]
    have hm : Gy.rmulV (f + 1) a b v i = Gy.rmulV f a b (if (b / 2 ^ i) % 2 = 1 then v ^^^ (a * 2 ^ i) else v) (i + 1) := rfl
    by_cases h1 : (b / 2 ^ i) % 2 = 1
    · rw [if_pos (by omega), hm, if_pos h1]
      exact ih _ _ _ _ _ (by omega) ha hb (Gy.xor_lt 20 hv (by omega)) (by omega)
    · rw [if_neg (by omega), hm, if_neg h1]
      exact ih _ _ _ _ _ (by omega) ha hb hv (by omega)
theorem rmul_def (a b : Nat) : Gy.rmul a b = Gy.rmulR 7 (Gy.rmulV 8 a b 0 0) % 256 := by unfold Gy.rmul; rfl
theorem rmul {k : Nat} (hk : 18 ≤ k) {a b : Nat} (ha : a < 256) (hb : b < 256) : geyserref03_Mul.f k a b = some ((Gy.gmul a b : Nat) : Int) := by
  have h := rm_l0 8 0 a b 0 k (by omega) ha hb (by omega) (by omega)
  rw [← rmul_def, Gy.rmul_eq ha hb] at h
  exact h
theorem ginv_one {x b : Nat} (hx : x < 256) (hb : b < 256) (h0 : x ≠ 0) (h : Gy.gmul x b = 1) : b = Gy.ginv x := by
  have hi := Gy.ginv_lt hx
  have e1 : Gy.gmul (Gy.ginv x) (Gy.gmul x b) = Gy.ginv x := by rw [h]; exact Gy.gmul_one_right
  rw [← Gy.gmul_assoc hi hx, Gy.gmul_comm hi hx, Gy.gmul_ginv hx h0, Gy.gmul_one_left hb] at e1
  exact e1
theorem inv_l0 {x : Nat} (hx : x < 256) (h0 : x ≠ 0) : ∀ (d b : Nat), b + d = 256 → b ≤ Gy.ginv x → Ev (fun k => geyserref03_Inv.l0 k x b) ((Gy.ginv x : Nat) : Int) := by
  have hi := Gy.ginv_lt hx
  intro d
  induction d with
  | zero => intro b hb hle; omega
  | succ d ih =>
    intro b hb hle
    have hm : Ev (fun k => geyserref03_Mul.f k x (b : Int)) ((Gy.gmul x b : Nat) : Int) := ⟨18, fun k hk => rmul hk hx (by omega)⟩
    have hb2 : (b : Int) % 256 = b := by omega
    have hw : wrap64 ((b : Int) + 1) = ((b + 1 : Nat) : Int) := by rw [Gy.wrap64_id (by omega) (by omega)]; omega
    refine Ev.step (f := fun k => (geyserref03_Mul.f k x (b : Int)).bind fun t => if t = 1 then some (b : Int) else geyserref03_Inv.l0 k x ((b + 1 : Nat) : Int)) (fun k => ?_) (Ev.bind hm ?_)
    · simp only [geyserref03_Inv.l0]
      rw [if_pos (by omega), hb2, hw]
    · by_cases h1 : Gy.gmul x b = 1
      · have := ginv_one hx (by omega) h0 h1
        rw [h1, ← this]
        exact Ev.congr (fun n => if_pos rfl) (Ev.now _)
      · have hne : b ≠ Gy.ginv x := fun e => h1 (by rw [e]; exact Gy.gmul_ginv hx h0)
        exact Ev.congr (fun n => if_neg (by omega)) (ih (b + 1) (by omega) (by omega))
theorem inv_run {x : Nat} (hx : x < 256) (h0 : x ≠ 0) : Ev (fun k => geyserref03_Inv.f k x) ((Gy.ginv x : Nat) : Int) := inv_l0 hx h0 256 0 (by omega) (by omega)
theorem rinv_calls {x : Nat} (hx : x < 256) (h0 : x ≠ 0) (w : World) : Calls Try.prog 56 #[.int .u8 (x : Int)] w fun e w' => e = .returned (.int .u8 ((Gy.ginv x : Nat) : Int)) ∧ Below w.heap.size w w' := by
  obtain ⟨k, hk⟩ := inv_run hx h0
  exact (geyserref03_Inv.calls k x _ w (hk k (Nat.le_refl _))).mono fun e w' h => ⟨h.1, h.2.below⟩

end Go.Proofs.Ytcmigmldecacpaa.Pure
