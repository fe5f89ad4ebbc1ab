/- The parities of any sources are what the document says, or refused. No condition beyond the kinds of the arguments. -/
import Derived.Test.YtcmigmldecacpaaQPrecodeParitiesx6
import Derived.Test.YtcmigmldecacpaaGf
import Derived.Test.YtcmigmldecacpaaBt
import Derived.Test.YtcmigmldecacpaaGiv
namespace Go.Proofs.Ytcmigmldecacpaa.Pure
open Go Go.RowKit Go.Proofs.Ytcmigmldecacpaa.QPrecodeParities Go.Proofs.YtcmigmldecacpaaW.PrintWords Go.Proofs.YtcmigmldecacpaaW.PrintLast Go.Proofs.Ytcmigmldecacpaa.Vec Go.Proofs.Ytcmigmldecacpaa.Giv

theorem gmulAux_zero : ∀ (f s x : Nat), Gy.gmulAux f s x 0 = s := by
  intro f
  induction f with
  | zero => intro s x; rfl
  | succ f ih => intro s x; unfold Gy.gmulAux; rw [if_neg (by decide)]; exact ih _ _
theorem w2 {x : Nat} (h : x < 256) : wrap64 ((x : Int) * 2) = ((x * 2 : Nat) : Int) := by unfold wrap64; omega
theorem half (y : Nat) : (y : Int) / 2 = ((y / 2 : Nat) : Int) := by omega
theorem fm_l0 : ∀ (f s x y k : Nat), s < 256 → x < 256 → y < 2 ^ f → y < 256 → f < k → field_Mul.l0 k s x y = some ((Gy.gmulAux f s x y : Nat) : Int) := by
  intro f
  induction f with
  | zero =>
    intro s x y k hs hx hy _ hk
    obtain ⟨k, rfl⟩ : ∃ m, k = m + 1 := ⟨k - 1, by omega⟩
    obtain rfl : y = 0 := by simp at hy; omega
    simp only [field_Mul.l0]
    rw [if_neg (by omega)]
    show some ((s : Int) % 256) = some (s : Int)
    congr 1; omega
  | succ f ih =>
    intro s x y k hs hx hy hy2 hk
    obtain ⟨k, rfl⟩ : ∃ m, k = m + 1 := ⟨k - 1, by omega⟩
    by_cases h0 : y = 0
    · subst h0
      rw [gmulAux_zero]
      simp only [field_Mul.l0]
      rw [if_neg (by omega)]
      congr 1; omega
    · simp only [field_Mul.l0]
      rw [if_pos (by omega), Gy.i64_and1 y (by omega), w2 hx, Gy.i64_xor s x (by omega) (by omega), half]
      have e285 : Go.bits .xor .i64 ((x * 2 : Nat) : Int) 285 = ((((x * 2) ^^^ 285) : Nat) : Int) := Gy.i64_xor (x * 2) 285 (by omega) (by omega)
      rw [e285]
      have hxt := Gy.xt_lt hx
      have hsx := Gy.xor_lt8 hs hx
      have hy' : y / 2 < 2 ^ f := by rw [Nat.pow_succ] at hy; omega
      have hm : Gy.gmulAux (f + 1) s x y = Gy.gmulAux f (if y % 2 = 1 then s ^^^ x else s) (Gy.xt x) (y / 2) := rfl
      by_cases h1 : y % 2 = 1
      · rw [if_pos (by omega)]
        rw [if_pos h1] at hm
        by_cases h2 : x * 2 > 255
        · have ex : Gy.xt x = (x * 2) ^^^ 285 := by unfold Gy.xt; rw [if_pos h2]
          rw [if_pos (by omega), hm, ← ex]
          exact ih _ _ _ _ hsx hxt hy' (by omega) (by omega)
        · have ex : Gy.xt x = x * 2 := by unfold Gy.xt; rw [if_neg h2]
          rw [if_neg (by omega), hm, ← ex]
          exact ih _ _ _ _ hsx hxt hy' (by omega) (by omega)
      · rw [if_neg (by omega)]
        rw [if_neg h1] at hm
        by_cases h2 : x * 2 > 255
        · have ex : Gy.xt x = (x * 2) ^^^ 285 := by unfold Gy.xt; rw [if_pos h2]
          rw [if_pos (by omega), hm, ← ex]
          exact ih _ _ _ _ hs hxt hy' (by omega) (by omega)
        · have ex : Gy.xt x = x * 2 := by unfold Gy.xt; rw [if_neg h2]
          rw [if_neg (by omega), hm, ← ex]
          exact ih _ _ _ _ hs hxt hy' (by omega) (by omega)
theorem fmul {k : Nat} (hk : 9 ≤ k) {a b : Nat} (ha : a < 256) (hb : b < 256) : field_Mul.f k a b = some ((Gy.gmul a b : Nat) : Int) := by
  unfold field_Mul.f
  rw [Gy.wrap64_id (by omega) (by omega), Gy.wrap64_id (by omega) (by omega)]
  exact fm_l0 8 0 a b k (by omega) ha hb hb (by omega)
theorem shr_u8 (b : Nat) (i : Nat) (hi : i < 8) : shr .u8 (b : Int) (IntKind.u64.wrap (i : Int)) = ((b / 2 ^ i : Nat) : Int) := by
  unfold shr
  rw [Gy.u64_wrap_id (by omega) (by omega)]
  have e : min ((i : Int)).toNat (IntKind.bits .u8) = i := by show min i 8 = i; omega
  rw [e]
  norm_cast
theorem pow_lt8 {i : Nat} (h : i < 8) : 2 ^ i ≤ 128 := by
  have : 2 ^ i ≤ 2 ^ 7 := Nat.pow_le_pow_right (by omega) (by omega)
  exact this
theorem shl_i64 {a : Nat} (ha : a < 512) (i : Nat) (hi : i < 8) : shl .i64 (a : Int) (IntKind.u64.wrap (i : Int)) = ((a * 2 ^ i : Nat) : Int) := by
  unfold shl
  rw [Gy.u64_wrap_id (by omega) (by omega)]
  have e : min ((i : Int)).toNat (IntKind.bits .i64) = i := by show min i 64 = i; omega
  rw [e]
  have h1 := pow_lt8 hi
  have h2 : a * 2 ^ i ≤ 511 * 128 := Nat.mul_le_mul (by omega) h1
  have e2 : (a : Int) * 2 ^ i = ((a * 2 ^ i : Nat) : Int) := by norm_cast
  rw [e2, Gy.wrapI64]
  omega
theorem shr_i64 (v : Nat) (i : Nat) (hi : i < 64) : shr .i64 (v : Int) (IntKind.u64.wrap (i : Int)) = ((v / 2 ^ i : Nat) : Int) := by
  unfold shr
  rw [Gy.u64_wrap_id (by omega) (by omega)]
  have e : min ((i : Int)).toNat (IntKind.bits .i64) = i := by show min i 64 = i; omega
  rw [e]
  norm_cast
theorem rm_l1 : ∀ (f v k : Nat), f ≤ 7 → v < 2 ^ 20 → f < k → geyserref03_Mul.l1 k v ((f : Int) + 7) = some ((Gy.rmulR f v % 256 : Nat) : Int) := by
  intro f
  induction f with
  | zero =>
    intro v k _ hv hk
    obtain ⟨k, rfl⟩ : ∃ m, k = m + 1 := ⟨k - 1, by omega⟩
    simp only [geyserref03_Mul.l1]
    rw [if_neg (by omega)]
    rfl
  | succ f ih =>
    intro v k hf hv hk
    obtain ⟨k, rfl⟩ : ∃ m, k = m + 1 := ⟨k - 1, by omega⟩
    have e8 : ((f + 1 : Nat) : Int) + 7 = ((f + 8 : Nat) : Int) := by omega
    rw [e8]
    simp only [geyserref03_Mul.l1]
    rw [if_pos (by omega), if_pos (by rw [Gy.u64_wrap_id (by omega) (by omega)]; omega)]
    rw [shr_i64 v (f + 8) (by omega), Gy.i64_and1 _ (Nat.lt_of_le_of_lt (Nat.div_le_self _ _) (by omega))]
    have em1 : wrap64 (((f + 8 : Nat) : Int) - 1) = (f : Int) + 7 := by rw [Gy.wrap64_id (by omega) (by omega)]; omega
    have em8 : wrap64 (((f + 8 : Nat) : Int) - 8) = (f : Int) := by rw [Gy.wrap64_id (by omega) (by omega)]; omega
    rw [em1, em8]
    have hm : Gy.rmulR (f + 1) v = Gy.rmulR f (if (v / 2 ^ (f + 8)) % 2 = 1 then v ^^^ (285 * 2 ^ f) else v) := rfl
    have e285 : shl .i64 (285 : Int) (IntKind.u64.wrap (f : Int)) = ((285 * 2 ^ f : Nat) : Int) := shl_i64 (a := 285) (by omega) f (by omega)
    have hp := pow_lt8 (i := f) (by omega)
    rw [e285, Gy.i64_xor v (285 * 2 ^ f) (by omega) (by omega)]
    by_cases h1 : (v / 2 ^ (f + 8)) % 2 = 1
    · rw [if_pos (by omega), if_pos (by rw [Gy.u64_wrap_id (by omega) (by omega)]; omega), hm, if_pos h1]
      exact ih _ _ (by omega) (Gy.xor_lt 20 hv (by omega)) (by omega)
    · rw [if_neg (by omega), hm, if_neg h1]
      exact ih _ _ (by omega) hv (by omega)
theorem rm_l0 : ∀ (f i : Nat) (a b v k : Nat), f + i = 8 → a < 256 → b < 256 → v < 2 ^ 20 → f + 9 < k →
    geyserref03_Mul.l0 k a b v i = some ((Gy.rmulR 7 (Gy.rmulV f a b v i) % 256 : Nat) : Int) := by
  intro f
  induction f with
  | zero =>
    intro i a b v k hi ha hb hv hk
    obtain ⟨k, rfl⟩ : ∃ m, k = m + 1 := ⟨k - 1, by omega⟩
    simp only [geyserref03_Mul.l0]
    rw [if_neg (by omega)]
    exact rm_l1 7 v k (by omega) hv (by omega)
  | succ f ih =>
    intro i a b v k hi ha hb hv hk
    obtain ⟨k, rfl⟩ : ∃ m, k = m + 1 := ⟨k - 1, by omega⟩
    simp only [geyserref03_Mul.l0]
    rw [if_pos (by omega), if_pos (by rw [Gy.u64_wrap_id (by omega) (by omega)]; omega)]
    rw [shr_u8 b i (by omega), Gy.u8_and1 _ (Nat.lt_of_le_of_lt (Nat.div_le_self _ _) hb)]
    have e1 : wrap64 ((i : Int) + 1) = ((i + 1 : Nat) : Int) := by rw [Gy.wrap64_id (by omega) (by omega)]; omega
    rw [e1, Gy.wrap64_id (by omega) (by omega), shl_i64 (by omega) i (by omega)]
    have hp := pow_lt8 (i := i) (by omega)
    have hav : a * 2 ^ i ≤ 255 * 128 := Nat.mul_le_mul (by omega) hp
    rw [Gy.i64_xor v (a * 2 ^ i) (by omega) (by omega)]
    have hm : Gy.rmulV (f + 1) a b v i = Gy.rmulV f a b (if (b / 2 ^ i) % 2 = 1 then v ^^^ (a * 2 ^ i) else v) (i + 1) := rfl
    by_cases h1 : (b / 2 ^ i) % 2 = 1
    · rw [if_pos (by omega), hm, if_pos h1]
      exact ih _ _ _ _ _ (by omega) ha hb (Gy.xor_lt 20 hv (by omega)) (by omega)
    · rw [if_neg (by omega), hm, if_neg h1]
      exact ih _ _ _ _ _ (by omega) ha hb hv (by omega)
theorem rmul_def (a b : Nat) : Gy.rmul a b = Gy.rmulR 7 (Gy.rmulV 8 a b 0 0) % 256 := by unfold Gy.rmul; rfl
theorem rmul {k : Nat} (hk : 18 ≤ k) {a b : Nat} (ha : a < 256) (hb : b < 256) : geyserref03_Mul.f k a b = some ((Gy.gmul a b : Nat) : Int) := by
  have h := rm_l0 8 0 a b 0 k (by omega) ha hb (by omega) (by omega)
  rw [← rmul_def, Gy.rmul_eq ha hb] at h
  exact h
theorem fp_l0 : ∀ (f out a n k : Nat), out < 256 → a < 256 → n < 2 ^ f → n < 4294967296 → f + 9 < k → field_power.l0 k a n out = some ((Gy.powAux f out a n : Nat) : Int) := by
  intro f
  induction f with
  | zero =>
    intro out a n k ho ha hn _ hk
    obtain ⟨k, rfl⟩ : ∃ m, k = m + 1 := ⟨k - 1, by omega⟩
    obtain rfl : n = 0 := by simp at hn; omega
    simp only [field_power.l0]
    rw [if_neg (by omega)]
    rfl
  | succ f ih =>
    intro out a n k ho ha hn hn2 hk
    obtain ⟨k, rfl⟩ : ∃ m, k = m + 1 := ⟨k - 1, by omega⟩
    simp only [field_power.l0]
    by_cases h0 : n = 0
    · subst h0
      rw [if_neg (by omega)]
      unfold Gy.powAux
      rw [if_pos rfl]
    · have hn' : n / 2 < 2 ^ f := by rw [Nat.pow_succ] at hn; omega
      rw [if_pos (by omega), Gy.i64_and1 n (by omega), fmul (by omega) ho ha, fmul (by omega) ha ha, half]
      simp only [Option.bind_some]
      have hm : Gy.powAux (f + 1) out a n = Gy.powAux f (if n % 2 = 1 then Gy.gmul out a else out) (Gy.gmul a a) (n / 2) := by
        conv => lhs; unfold Gy.powAux
        rw [if_neg h0]
      by_cases h1 : n % 2 = 1
      · rw [if_pos (by omega), hm, if_pos h1]
        exact ih _ _ _ _ (Gy.gmul_lt ho ha) (Gy.gmul_lt ha ha) hn' (by omega) (by omega)
      · rw [if_neg (by omega), hm, if_neg h1]
        exact ih _ _ _ _ ho (Gy.gmul_lt ha ha) hn' (by omega) (by omega)
theorem fpower {k : Nat} (hk : 18 ≤ k) {a n : Nat} (ha : a < 256) (hn : n < 256) : field_power.f k a n = some ((Gy.gpow a n : Nat) : Int) := by
  unfold field_power.f
  have h := fp_l0 8 1 a n k (by omega) ha hn (by omega) (by omega)
  rw [Gy.powAux_eq 8 1 a n (by omega) ha hn, Gy.gmul_one_left (Gy.gpow_lt ha n)] at h
  exact h
theorem emod_tmod (n : Int) : Int.tmod (Int.tmod n 255 + 255) 255 = n % 255 := by
  rcases Int.le_total 0 n with h | h
  · rw [Int.tmod_eq_emod_of_nonneg h, Int.tmod_eq_emod_of_nonneg (by omega)]; omega
  · have e : Int.tmod n 255 = - ((-n) % 255) := by
      conv => lhs; rw [show n = - (-n) from by omega]
      rw [Int.neg_tmod, Int.tmod_eq_emod_of_nonneg (by omega)]
    rw [e, Int.tmod_eq_emod_of_nonneg (by omega)]; omega
theorem tmod_b (n : Int) : -255 < Int.tmod n 255 ∧ Int.tmod n 255 < 255 := by
  rcases Int.le_total 0 n with h | h
  · rw [Int.tmod_eq_emod_of_nonneg h]; omega
  · have e : Int.tmod n 255 = - ((-n) % 255) := by
      conv => lhs; rw [show n = - (-n) from by omega]
      rw [Int.neg_tmod, Int.tmod_eq_emod_of_nonneg (by omega)]
    rw [e]; omega
/-- what a power is -/
def pw (a : Nat) (n : Int) : Nat := if n = 0 then 1 else if a = 0 then 0 else Gy.gpow a (n % 255).toNat
theorem pw_lt {a : Nat} (ha : a < 256) (n : Int) : pw a n < 256 := by
  unfold pw; split
  · omega
  · split
    · omega
    · exact Gy.gpow_lt ha _
theorem fPow {k : Nat} (hk : 18 ≤ k) {a : Nat} (ha : a < 256) (n : Int) : field_Pow.f k a n = some ((pw a n : Nat) : Int) := by
  unfold field_Pow.f pw
  by_cases h0 : n = 0
  · rw [if_pos h0, if_pos h0]; rfl
  · rw [if_neg h0, if_neg h0]
    by_cases h1 : a = 0
    · rw [if_pos (by omega), if_pos h1]; rfl
    · rw [if_neg (by omega), if_neg h1]
      have hb := tmod_b n
      have h := fpower (a := a) (n := (n % 255).toNat) hk ha (by omega)
      rw [show ((n % 255).toNat : Int) = n % 255 from by omega] at h
      rw [Gy.wrap64_id (by omega) (by omega), emod_tmod, h]
      rfl
theorem rp_l0 : ∀ (d : Nat) (a out m i k : Nat), out < 256 → a < 256 → m ≤ 255 → i + d = m → d + 20 < k → 
    geyserref03_Pow.l0 k a out m i = some ((Gy.gmul out (Gy.gpow a d) : Nat) : Int) := by
  intro d
  induction d with
  | zero =>
    intro a out m i k ho ha hm hi hk
    obtain ⟨k, rfl⟩ : ∃ m, k = m + 1 := ⟨k - 1, by omega⟩
    simp only [geyserref03_Pow.l0]
    rw [if_neg (by omega)]
    show some (out : Int) = some ((Gy.gmul out 1 : Nat) : Int)
    rw [Gy.gmul_one_right]
  | succ d ih =>
    intro a out m i k ho ha hm hi hk
    obtain ⟨k, rfl⟩ : ∃ m, k = m + 1 := ⟨k - 1, by omega⟩
    simp only [geyserref03_Pow.l0]
    rw [if_pos (by omega), rmul (by omega) ho ha]
    simp only [Option.bind_some]
    rw [show wrap64 ((i : Int) + 1) = ((i + 1 : Nat) : Int) from by rw [Gy.wrap64_id (by omega) (by omega)]; omega]
    rw [ih a (Gy.gmul out a) m (i + 1) k (Gy.gmul_lt ho ha) ha hm (by omega) (by omega)]
    rw [Gy.gmul_assoc ho ha]
    have e : Gy.gpow a (d + 1) = Gy.gmul a (Gy.gpow a d) := by
      rw [Nat.add_comm, Gy.gpow_add ha]
      have e1 : Gy.gpow a 1 = a := Gy.gmul_one_left ha
      rw [e1]
    rw [e]
theorem rp_j0 {a m k : Nat} (ha : a < 256) (hm : m < 255) (hk : 300 ≤ k) : geyserref03_Pow.j0 k a m = some ((Gy.gpow a m : Nat) : Int) := by
  obtain ⟨k, rfl⟩ : ∃ m, k = m + 1 := ⟨k - 1, by omega⟩
  simp only [geyserref03_Pow.j0]
  have h := rp_l0 m a 1 m 0 k (by omega) ha (by omega) (by omega) (by omega)
  rw [Gy.gmul_one_left (Gy.gpow_lt ha m)] at h
  exact h
theorem rPow {k : Nat} (hk : 300 ≤ k) {a : Nat} (ha : a < 256) (n : Int) : geyserref03_Pow.f k a n = some ((pw a n : Nat) : Int) := by
  unfold geyserref03_Pow.f pw
  by_cases h0 : n = 0
  · rw [if_pos h0, if_pos h0]; rfl
  · rw [if_neg h0, if_neg h0]
    by_cases h1 : a = 0
    · rw [if_pos (by omega), if_pos h1]; rfl
    · rw [if_neg (by omega), if_neg h1]
      have hb := tmod_b n
      have he := emod_tmod n
      by_cases h2 : Int.tmod n 255 < 0
      · rw [if_pos h2, Gy.wrap64_id (by omega) (by omega)]
        rw [Int.tmod_eq_emod_of_nonneg (by omega)] at he
        have e : Int.tmod n 255 + 255 = ((n % 255).toNat : Int) := by omega
        rw [e]
        exact rp_j0 ha (by omega) hk
      · rw [if_neg h2]
        rw [Int.tmod_eq_emod_of_nonneg (by omega)] at he
        have e : Int.tmod n 255 = ((n % 255).toNat : Int) := by omega
        rw [e]
        exact rp_j0 ha (by omega) hk
def mat (R k : Nat) (f : Nat → Nat → Int) : List (List Int) := (List.range R).map fun j => (List.range k).map (f j)
def upd (f : Nat → Nat → Int) (j c : Nat) (v : Int) : Nat → Nat → Int := fun j' c' => if j' = j ∧ c' = c then v else f j' c'
theorem mat_len (R k : Nat) (f : Nat → Nat → Int) : (mat R k f).length = R := by simp [mat]
theorem rd_mat {R k j : Nat} (f : Nat → Nat → Int) (h : j < R) : rd_L1 (mat R k f) (j : Int) = (List.range k).map (f j) := by
  unfold rd_L1 mat; rw [Int.toNat_natCast, List.getD_eq_getElem?_getD]; simp [h]
theorem mat_set {R k j c : Nat} (f : Nat → Nat → Int) (v : Int) (_h : j < R) : (mat R k f).set j (((List.range k).map (f j)).set c v) = mat R k (upd f j c v) := by
  apply List.ext_getElem
  · simp [mat]
  · intro a h1 h2
    simp only [mat, List.getElem_set, List.getElem_map, List.getElem_range]
    by_cases e : j = a
    · subst e
      rw [if_pos rfl]
      apply List.ext_getElem
      · simp
      · intro b h3 h4
        simp only [List.getElem_set, List.getElem_map, List.getElem_range]
        by_cases e2 : c = b
        · subst e2; simp [upd]
        · simp [upd, e2, Ne.symm e2]
    · rw [if_neg e]
      apply List.map_congr_left
      intro b _
      unfold upd
      rw [if_neg (fun h => e h.1.symm)]
theorem mat_congr {R k : Nat} {f g : Nat → Nat → Int} (h : ∀ j, j < R → ∀ c, c < k → f j c = g j c) : mat R k f = mat R k g := by
  unfold mat
  apply List.map_congr_left
  intro j hj
  apply List.map_congr_left
  intro c hc
  exact h j (by simpa using hj) c (by simpa using hc)
/-- the parities' numbers -/
def ent (s j c : Nat) : Int := if j < s then (if c % s = j ∨ (3 * c + 1) % s = j then 1 else 0) else ((pw 2 (((c + 1) * (j - s + 1) : Nat) : Int) : Nat) : Int)
def entTo (s i j c : Nat) : Int := if c < i then ent s j c else 0
def numS (k : Nat) : Nat := (k + 7) / 8 + 1
theorem numS_b {k : Nat} (h1 : 1 ≤ k) (h2 : k ≤ 64) : 2 ≤ numS k ∧ numS k ≤ 9 := by unfold numS; omega
theorem tmod_nat (a b : Nat) : Int.tmod (a : Int) (b : Int) = ((a % b : Nat) : Int) := by rw [Int.tmod_eq_emod_of_nonneg (by omega)]; norm_cast
theorem e_pow (n : Int) : Ev (fun k => field_Pow.f k 2 n) ((pw 2 n : Nat) : Int) := ⟨18, fun k hk => fPow (a := 2) hk (by omega) n⟩
theorem e_rpow (n : Int) : Ev (fun k => geyserref03_Pow.f k 2 n) ((pw 2 n : Nat) : Int) := ⟨300, fun k hk => rPow (a := 2) hk (by omega) n⟩
theorem w_up {i n : Nat} (h : i < n) (hn : n ≤ 1000) : wrap64 ((i : Int) + 1) = ((i + 1 : Nat) : Int) := by rw [Gy.wrap64_id (by omega) (by omega)]; omega
theorem row_len (k : Nat) (f : Nat → Int) : (((List.range k).map f).length : Int) = k := by simp
theorem p_l2 {s k i : Nat} (hs : s ≤ 9) (hk : k ≤ 64) (hi : i < k) (f : Nat → Nat → Int) {r : List (List Int)}
    (hrest : Ev (fun n => precode_Rows.l1 n s (mat (s + 2) k (upd (upd f s i ((pw 2 ((i + 1 : Nat) : Int) : Nat) : Int)) (s + 1) i ((pw 2 (((i + 1) * 2 : Nat) : Int) : Nat) : Int))) k ((i + 1 : Nat) : Int)) r) :
    Ev (fun n => precode_Rows.l2 n s (mat (s + 2) k f) i k i 0) r := by
  have e0 : wrap64 ((s : Int) + 0) = (s : Int) := Gy.wrap64_id (by omega) (by omega)
  have e1 : wrap64 ((s : Int) + 1) = ((s + 1 : Nat) : Int) := by rw [Gy.wrap64_id (by omega) (by omega)]; omega
  have p0 : wrap64 (wrap64 ((i : Int) + 1) * wrap64 (0 + 1)) = ((i + 1 : Nat) : Int) := by
    rw [Gy.wrap64_id (n := (i : Int) + 1) (by omega) (by omega), Gy.wrap64_id (n := 0 + 1) (by omega) (by omega), Gy.wrap64_id (by omega) (by omega)]; omega
  have p1 : wrap64 (wrap64 ((i : Int) + 1) * wrap64 (1 + 1)) = (((i + 1) * 2 : Nat) : Int) := by
    rw [Gy.wrap64_id (n := (i : Int) + 1) (by omega) (by omega), Gy.wrap64_id (n := 1 + 1) (by omega) (by omega), Gy.wrap64_id (by omega) (by omega)]; omega
  refine Ev.step (fun n => ?_) (Ev.bind (e_pow ((i + 1 : Nat) : Int)) (f := fun n t => if 0 ≤ (i : Int) then (if (i : Int) < ((rd_L1 (mat (s + 2) k f) (s : Int)).length : Int) then precode_Rows.l2 n s ((mat (s + 2) k f).set (s : Int).toNat ((rd_L1 (mat (s + 2) k f) (s : Int)).set (i : Int).toNat t)) i k i (wrap64 (0 + 1)) else none) else none) ?_)
  · simp only [precode_Rows.l2]
    rw [if_pos (by omega), e0, if_pos (by omega), if_pos (by rw [mat_len]; omega), p0]
  · rw [rd_mat f (by omega), Int.toNat_natCast, Int.toNat_natCast, mat_set f _ (by omega)]
    refine Ev.congr (fun n => by rw [if_pos (by omega), if_pos (by rw [row_len]; omega)]) ?_
    rw [show wrap64 (0 + 1) = 1 from by decide +kernel]
    refine Ev.step (fun n => ?_) (Ev.bind (e_pow (((i + 1) * 2 : Nat) : Int)) (f := fun n t => if 0 ≤ (i : Int) then (if (i : Int) < ((rd_L1 (mat (s + 2) k (upd f s i ((pw 2 ((i + 1 : Nat) : Int) : Nat) : Int))) ((s + 1 : Nat) : Int)).length : Int) then precode_Rows.l2 n s ((mat (s + 2) k (upd f s i ((pw 2 ((i + 1 : Nat) : Int) : Nat) : Int))).set ((s + 1 : Nat) : Int).toNat ((rd_L1 (mat (s + 2) k (upd f s i ((pw 2 ((i + 1 : Nat) : Int) : Nat) : Int))) ((s + 1 : Nat) : Int)).set (i : Int).toNat t)) i k i (wrap64 (1 + 1)) else none) else none) ?_)
    · simp only [precode_Rows.l2]
      rw [if_pos (by omega), e1, if_pos (by omega), if_pos (by rw [mat_len]; omega), p1]
    · rw [rd_mat _ (by omega), Int.toNat_natCast, Int.toNat_natCast, mat_set _ _ (by omega)]
      refine Ev.congr (fun n => by rw [if_pos (by omega), if_pos (by rw [row_len]; omega)]) ?_
      rw [show wrap64 (1 + 1) = 2 from by decide +kernel]
      refine Ev.step (fun n => ?_) hrest
      simp only [precode_Rows.l2]
      rw [if_neg (by omega), w_up hi (by omega)]
theorem ent_step {s i j c : Nat} (hs : 2 ≤ s) (hj : j < s + 2) :
    upd (upd (upd (upd (entTo s i) (i % s) i 1) ((3 * i + 1) % s) i 1) s i ((pw 2 ((i + 1 : Nat) : Int) : Nat) : Int)) (s + 1) i ((pw 2 (((i + 1) * 2 : Nat) : Int) : Nat) : Int) j c = entTo s (i + 1) j c := by
  have m1 := Nat.mod_lt i (show 0 < s by omega)
  have m2 := Nat.mod_lt (3 * i + 1) (show 0 < s by omega)
  unfold upd entTo
  by_cases hc : c = i
  · subst hc
    rw [if_pos (show c < c + 1 by omega)]
    unfold ent
    by_cases h1 : j = s + 1
    · rw [if_pos ⟨h1, rfl⟩, if_neg (by omega), h1, show s + 1 - s + 1 = 2 from by omega]
    · rw [if_neg (fun h => h1 h.1)]
      by_cases h2 : j = s
      · rw [if_pos ⟨h2, rfl⟩, if_neg (by omega), h2, show s - s + 1 = 1 from by omega, Nat.mul_one]
      · rw [if_neg (fun h => h2 h.1), if_pos (show j < s by omega)]
        by_cases h3 : (3 * c + 1) % s = j
        · rw [if_pos ⟨h3.symm, rfl⟩, if_pos (.inr h3)]
        · rw [if_neg (fun h => h3 h.1.symm)]
          by_cases h4 : c % s = j
          · rw [if_pos ⟨h4.symm, rfl⟩, if_pos (.inl h4)]
          · rw [if_neg (fun h => h4 h.1.symm), if_neg (by omega), if_neg (by rintro (h | h) <;> contradiction)]
  · rw [if_neg (fun h => hc h.2), if_neg (fun h => hc h.2), if_neg (fun h => hc h.2), if_neg (fun h => hc h.2)]
    by_cases h : c < i
    · rw [if_pos h, if_pos (by omega)]
    · rw [if_neg h, if_neg (by omega)]
theorem p_l1 {s k : Nat} (hs : 2 ≤ s) (hs9 : s ≤ 9) (hk : k ≤ 64) : ∀ (d i : Nat), i + d = k → Ev (fun n => precode_Rows.l1 n s (mat (s + 2) k (entTo s i)) k i) (mat (s + 2) k (ent s)) := by
  intro d
  induction d with
  | zero =>
    intro i hi
    obtain rfl : i = k := by omega
    have e : mat (s + 2) i (entTo s i) = mat (s + 2) i (ent s) := mat_congr (fun j _ c hc => by unfold entTo; rw [if_pos hc])
    rw [e]
    refine Ev.step (fun n => ?_) (Ev.now _)
    simp only [precode_Rows.l1]
    rw [if_neg (by omega)]
  | succ d ih =>
    intro i hi
    have hi' : i < k := by omega
    have h1 := ih (i + 1) (by omega)
    rw [← mat_congr (fun j hj c _ => ent_step (i := i) (c := c) hs hj)] at h1
    have h2 := p_l2 hs9 hk hi' _ h1
    have m1 := Nat.mod_lt i (show 0 < s by omega)
    have m2 := Nat.mod_lt (3 * i + 1) (show 0 < s by omega)
    have e3 : wrap64 (wrap64 (3 * (i : Int)) + 1) = ((3 * i + 1 : Nat) : Int) := by
      rw [Gy.wrap64_id (n := 3 * (i : Int)) (by omega) (by omega), Gy.wrap64_id (by omega) (by omega)]; omega
    refine Ev.step (fun n => ?_) h2
    simp only [precode_Rows.l1]
    rw [if_pos (by omega), if_neg (by omega), e3, tmod_nat, tmod_nat, if_pos (by omega), if_pos (by rw [mat_len]; omega), if_pos (by omega), rd_mat _ (by omega), if_pos (by rw [row_len]; omega)]
    simp only [Option.bind_some, Int.toNat_natCast]
    rw [mat_set _ _ (by omega), if_pos (by omega), if_pos (by rw [mat_len]; omega), rd_mat _ (by omega), if_pos (by rw [row_len]; omega), mat_set _ _ (by omega)]
theorem p_l0 {s k : Nat} (hs : 2 ≤ s) (hs9 : s ≤ 9) (hk : k ≤ 64) : ∀ (d i : Nat), i + d = s + 2 →
    Ev (fun n => precode_Rows.l0 n k s (List.replicate i (List.replicate k 0) ++ List.replicate d []) ((s + 2 : Nat) : Int) i) (mat (s + 2) k (ent s)) := by
  intro d
  induction d with
  | zero =>
    intro i hi
    have e : List.replicate i (List.replicate k (0 : Int)) ++ List.replicate 0 [] = mat (s + 2) k (entTo s 0) := by
      rw [List.replicate_zero, List.append_nil, show i = s + 2 from by omega]
      apply List.ext_getElem
      · simp [mat]
      · intro a h1 h2
        simp only [mat, List.getElem_replicate, List.getElem_map]
        apply List.ext_getElem
        · simp
        · intro b h3 h4
          simp [entTo]
    rw [e]
    refine Ev.step (fun n => ?_) (p_l1 hs hs9 hk k 0 (by omega))
    simp only [precode_Rows.l0]
    rw [if_neg (by omega)]
    rfl
  | succ d ih =>
    intro i hi
    refine Ev.step (fun n => ?_) (ih (i + 1) (by omega))
    simp only [precode_Rows.l0]
    rw [if_pos (by omega), if_pos (by omega), if_pos (by omega), if_pos (by omega), if_pos (by simp; omega), w_up (n := s + 2) (by omega) (by omega), Int.toNat_natCast, Int.toNat_natCast]
    have e : (List.replicate i (List.replicate k (0 : Int)) ++ List.replicate (d + 1) []).set i (List.replicate k 0) = List.replicate (i + 1) (List.replicate k 0) ++ List.replicate d [] := by
      rw [List.set_append_right _ _ (by simp), List.length_replicate, Nat.sub_self, List.replicate_succ, List.set_cons_zero, List.replicate_succ', List.append_assoc]; rfl
    rw [e]
theorem p_rows {k : Nat} (h1 : 1 ≤ k) (h2 : k ≤ 64) : Ev (fun n => precode_Rows.f n k) (mat (numS k + 2) k (ent (numS k))) := by
  have hb := numS_b h1 h2
  have e8 : wrap64 ((k : Int) + 8) = ((k + 8 : Nat) : Int) := by rw [Gy.wrap64_id (by omega) (by omega)]; omega
  have e7 : wrap64 (((k + 8 : Nat) : Int) - 1) = ((k + 7 : Nat) : Int) := by rw [Gy.wrap64_id (by omega) (by omega)]; omega
  have ed : Int.tdiv ((k + 7 : Nat) : Int) 8 = (((k + 7) / 8 : Nat) : Int) := by rw [Int.tdiv_eq_ediv_of_nonneg (by omega)]; omega
  have es : precode_sparse.f k = some ((numS k : Nat) : Int) := by
    unfold precode_sparse.f
    rw [e8, e7, ed, Gy.wrap64_id (n := (((k + 7) / 8 : Nat) : Int)) (by omega) (by omega), Gy.wrap64_id (by omega) (by omega)]
    unfold numS; congr 1
  have ew : precode_wrong.f k = some false := by
    unfold precode_wrong.f; rw [if_neg (by omega)]; simp; omega
  have e2 : wrap64 ((numS k : Int) + 2) = ((numS k + 2 : Nat) : Int) := by rw [Gy.wrap64_id (by omega) (by omega)]; omega
  have h0 := p_l0 (s := numS k) (k := k) hb.1 hb.2 h2 (numS k + 2) 0 (by omega)
  refine Ev.congr (fun n => ?_) h0
  unfold precode_Rows.f
  rw [ew, Option.bind_some, if_neg (by decide), es, Option.bind_some, e2, if_pos (by omega), if_pos (by rw [Int.toNat_natCast]; omega), Option.bind_some, Int.toNat_natCast, List.length_replicate]
  rfl
theorem p_none {k : Int} (h : k < 1 ∨ k > 64) : Ev (fun n => precode_Rows.f n k) [] := by
  refine Ev.congr (f := fun _ => some []) (fun n => ?_) (Ev.now _)
  unfold precode_Rows.f precode_wrong.f
  rcases h with h | h
  · rw [if_pos h]; rfl
  · rw [if_neg (by omega)]
    simp only [Option.bind_some, h, decide_true, if_true]
theorem p_count {k : Nat} (h1 : 1 ≤ k) (h2 : k ≤ 64) : precode_Count.f k = some ((numS k + 2 : Nat) : Int) := by
  have hb := numS_b h1 h2
  have e8 : wrap64 ((k : Int) + 8) = ((k + 8 : Nat) : Int) := by rw [Gy.wrap64_id (by omega) (by omega)]; omega
  have e7 : wrap64 (((k + 8 : Nat) : Int) - 1) = ((k + 7 : Nat) : Int) := by rw [Gy.wrap64_id (by omega) (by omega)]; omega
  have ed : Int.tdiv ((k + 7 : Nat) : Int) 8 = (((k + 7) / 8 : Nat) : Int) := by rw [Int.tdiv_eq_ediv_of_nonneg (by omega)]; omega
  unfold precode_Count.f precode_wrong.f precode_sparse.f
  rw [if_neg (by omega), show decide ((k : Int) > 64) = false from by simp; omega, Option.bind_some, if_neg (by decide), Option.bind_some, e8, e7, ed, Gy.wrap64_id (n := (((k + 7) / 8 : Nat) : Int)) (by omega) (by omega),
    Gy.wrap64_id (n := (((k + 7) / 8 : Nat) : Int) + 1) (by omega) (by omega), Gy.wrap64_id (by omega) (by omega)]
  unfold numS; congr 1
theorem p_count0 {k : Int} (h : k < 1 ∨ k > 64) : precode_Count.f k = some 0 := by
  unfold precode_Count.f precode_wrong.f
  rcases h with h | h
  · rw [if_pos h]; rfl
  · rw [if_neg (by omega)]
    simp only [Option.bind_some, h, decide_true, if_true]
def vec (k : Nat) (f : Nat → Int) : List Int := (List.range k).map f
theorem vec_len (k : Nat) (f : Nat → Int) : (vec k f).length = k := by simp [vec]
theorem vec_set (k c : Nat) (f : Nat → Int) (v : Int) : (vec k f).set c v = vec k (fun c' => if c' = c then v else f c') := by
  apply List.ext_getElem
  · simp [vec]
  · intro b h3 h4
    simp only [vec, List.getElem_set, List.getElem_map, List.getElem_range]
    by_cases e2 : c = b
    · subst e2; simp
    · simp [e2, Ne.symm e2]
theorem vec_congr {k : Nat} {f g : Nat → Int} (h : ∀ c, c < k → f c = g c) : vec k f = vec k g := by
  unfold vec; apply List.map_congr_left; intro c hc; exact h c (by simpa using hc)
theorem r_l1 {s k j : Nat} (hs : 2 ≤ s) (hs9 : s ≤ 9) (hk : k ≤ 64) (hj : j < s + 2) (acc : List (List Int)) (hacc : acc.length ≤ 20) {r : List (List Int)} {N J : Int}
    (hrest : Ev (fun n => geyserref03_Parities.l0 n k s (acc ++ [vec k (ent s j)]) N (wrap64 (J + 1))) r) :
    ∀ (d i : Nat), i + d = k → Ev (fun n => geyserref03_Parities.l1 n k s acc j (vec k (entTo s i j)) N J k i) r := by
  intro d
  induction d with
  | zero =>
    intro i hi
    obtain rfl : i = k := by omega
    have e : vec i (entTo s i j) = vec i (ent s j) := vec_congr (fun c hc => by unfold entTo; rw [if_pos hc])
    rw [e]
    refine Ev.step (fun n => ?_) hrest
    simp only [geyserref03_Parities.l1]
    rw [if_neg (by omega), if_pos (by omega)]
  | succ d ih =>
    intro i hi
    have hi' : i < k := by omega
    have h1 := ih (i + 1) (by omega)
    have eu := w_up hi' (by omega)
    have e3 : wrap64 (wrap64 (3 * (i : Int)) + 1) = ((3 * i + 1 : Nat) : Int) := by
      rw [Gy.wrap64_id (n := 3 * (i : Int)) (by omega) (by omega), Gy.wrap64_id (by omega) (by omega)]; omega
    -- a place that is written
    have put : ∀ v : Int, v = ent s j i → Ev (fun n => geyserref03_Parities.l1 n k s acc j ((vec k (entTo s i j)).set i v) N J k ((i + 1 : Nat) : Int)) r := by
      intro v hv
      have e : (vec k (entTo s i j)).set i v = vec k (entTo s (i + 1) j) := by
        rw [vec_set]
        apply vec_congr
        intro c _
        unfold entTo
        by_cases hc : c = i
        · subst hc; rw [if_pos rfl, if_pos (by omega), hv]
        · rw [if_neg hc]
          by_cases h : c < i
          · rw [if_pos h, if_pos (by omega)]
          · rw [if_neg h, if_neg (by omega)]
      rw [e]; exact h1
    have j3t : j < s → (i % s = j ∨ (3 * i + 1) % s = j) → Ev (fun n => geyserref03_Parities.j3 n k s acc j (vec k (entTo s i j)) i N J k i true) r := by
      intro h2 h3
      refine Ev.step (fun n => ?_) (put 1 (by unfold ent; rw [if_pos h2, if_pos h3]))
      simp only [geyserref03_Parities.j3, if_true]
      rw [if_pos (by omega), if_pos (by rw [vec_len]; omega), eu, Int.toNat_natCast]
    have j3f : ¬ (j < s ∧ (i % s = j ∨ (3 * i + 1) % s = j)) → Ev (fun n => geyserref03_Parities.j3 n k s acc j (vec k (entTo s i j)) i N J k i false) r := by
      intro h2
      have e1 : wrap64 ((s : Int) + 1) = ((s + 1 : Nat) : Int) := by rw [Gy.wrap64_id (by omega) (by omega)]; omega
      have ez : wrap64 (2 * ((i + 1 : Nat) : Int)) = ((2 * (i + 1) : Nat) : Int) := by rw [Gy.wrap64_id (by omega) (by omega)]; omega
      by_cases h3 : j = s
      · refine Ev.step (fun n => ?_) (Ev.bind (e_rpow ((i + 1 : Nat) : Int)) (f := fun n t => if 0 ≤ (i : Int) then (if (i : Int) < ((vec k (entTo s i j)).length : Int) then geyserref03_Parities.l1 n k s acc j ((vec k (entTo s i j)).set (i : Int).toNat t) N J k (wrap64 ((i : Int) + 1)) else none) else none) ?_)
        · simp only [geyserref03_Parities.j3]
          rw [if_neg (by decide), if_pos (by omega), eu]
        · refine Ev.congr (fun n => by rw [if_pos (by omega), if_pos (by rw [vec_len]; omega), eu, Int.toNat_natCast]) (put _ ?_)
          unfold ent; rw [if_neg (by omega), h3, show s - s + 1 = 1 from by omega, Nat.mul_one]
      · by_cases h4 : j = s + 1
        · refine Ev.step (fun n => ?_) (Ev.bind (e_rpow ((2 * (i + 1) : Nat) : Int)) (f := fun n t => if 0 ≤ (i : Int) then (if (i : Int) < ((vec k (entTo s i j)).length : Int) then geyserref03_Parities.l1 n k s acc j ((vec k (entTo s i j)).set (i : Int).toNat t) N J k (wrap64 ((i : Int) + 1)) else none) else none) ?_)
          · simp only [geyserref03_Parities.j3]
            rw [if_neg (by decide), if_neg (by omega), if_pos (by rw [e1]; omega), eu, ez]
          · refine Ev.congr (fun n => by rw [if_pos (by omega), if_pos (by rw [vec_len]; omega), eu, Int.toNat_natCast]) (put _ ?_)
            unfold ent; rw [if_neg (by omega), h4, show s + 1 - s + 1 = 2 from by omega, Nat.mul_comm]
        · have e0 : ent s j i = 0 := by unfold ent; rw [if_pos (by omega), if_neg (fun h => h2 ⟨by omega, h⟩)]
          have e : vec k (entTo s i j) = vec k (entTo s (i + 1) j) := by
            apply vec_congr
            intro c _
            unfold entTo
            by_cases hc : c = i
            · subst hc; rw [if_neg (by omega), if_pos (by omega), e0]
            · by_cases h : c < i
              · rw [if_pos h, if_pos (by omega)]
              · rw [if_neg h, if_neg (by omega)]
          rw [e]
          refine Ev.step (fun n => ?_) h1
          simp only [geyserref03_Parities.j3]
          rw [if_neg (by decide), if_neg (by omega), if_neg (by rw [e1]; omega), eu]
    by_cases h2 : j < s
    · by_cases h3 : i % s = j
      · refine Ev.step (fun n => ?_) (j3t h2 (.inl h3))
        simp only [geyserref03_Parities.l1]
        rw [if_pos (by omega), if_pos (by omega), if_neg (by omega), tmod_nat, if_pos (by omega)]
      · by_cases h4 : (3 * i + 1) % s = j
        · refine Ev.step (fun n => ?_) (j3t h2 (.inr h4))
          simp only [geyserref03_Parities.l1]
          rw [if_pos (by omega), if_pos (by omega), if_neg (by omega), tmod_nat, if_neg (by omega), e3, tmod_nat, show (((3 * i + 1) % s : Nat) : Int) == (j : Int) from by rw [h4]; simp]
        · refine Ev.step (fun n => ?_) (j3f (by rintro ⟨_, h | h⟩ <;> contradiction))
          simp only [geyserref03_Parities.l1]
          rw [if_pos (by omega), if_pos (by omega), if_neg (by omega), tmod_nat, if_neg (by omega), e3, tmod_nat, show ((((3 * i + 1) % s : Nat) : Int) == (j : Int)) = false from by rw [beq_eq_false_iff_ne]; omega]
    · refine Ev.step (fun n => ?_) (j3f (fun h => h2 h.1))
      simp only [geyserref03_Parities.l1]
      rw [if_pos (by omega), if_neg (by omega)]
theorem r_l0 {s k : Nat} (hs : 2 ≤ s) (hs9 : s ≤ 9) (hk : k ≤ 64) : ∀ (d j : Nat), j + d = s + 2 →
    Ev (fun n => geyserref03_Parities.l0 n k s ((List.range j).map fun a => vec k (ent s a)) ((s + 2 : Nat) : Int) j) (mat (s + 2) k (ent s)) := by
  intro d
  induction d with
  | zero =>
    intro j hj
    obtain rfl : j = s + 2 := by omega
    refine Ev.step (fun n => ?_) (Ev.now _)
    simp only [geyserref03_Parities.l0]
    rw [if_neg (by omega)]
    rfl
  | succ d ih =>
    intro j hj
    have h1 := ih (j + 1) (by omega)
    rw [List.range_succ, List.map_append, ← w_up (i := j) (n := s + 2) (by omega) (by omega)] at h1
    have h2 := r_l1 (j := j) hs hs9 hk (by omega) ((List.range j).map fun a => vec k (ent s a)) (by simp; omega) h1 k 0 (by omega)
    have e : vec k (entTo s 0 j) = List.replicate k 0 := by
      unfold vec; rw [List.eq_replicate_iff]; exact ⟨by simp, fun b hb => by obtain ⟨c, _, rfl⟩ := List.mem_map.1 hb; simp [entTo]⟩
    rw [e] at h2
    refine Ev.step (fun n => ?_) h2
    simp only [geyserref03_Parities.l0]
    rw [if_pos (by omega), if_pos (by omega), if_pos (by rw [Int.toNat_natCast]; omega), Int.toNat_natCast]
    rfl
theorem r_par {k : Nat} (h1 : 1 ≤ k) (h2 : k ≤ 64) : Ev (fun n => geyserref03_Parities.f n k) (mat (numS k + 2) k (ent (numS k))) := by
  have hb := numS_b h1 h2
  have h0 := r_l0 (s := numS k) (k := k) hb.1 hb.2 h2 (numS k + 2) 0 (by omega)
  have e2 : wrap64 ((numS k : Int) + 2) = ((numS k + 2 : Nat) : Int) := by rw [Gy.wrap64_id (by omega) (by omega)]; omega
  have hj : Ev (fun n => geyserref03_Parities.j0 n k (numS k : Nat)) (mat (numS k + 2) k (ent (numS k))) := by
    refine Ev.step (fun n => ?_) h0
    simp only [geyserref03_Parities.j0]
    rw [e2]; rfl
  have et : Int.tmod (k : Int) 8 = ((k % 8 : Nat) : Int) := by rw [Int.tmod_eq_emod_of_nonneg (by omega)]; omega
  have ed : Int.tdiv (k : Int) 8 = ((k / 8 : Nat) : Int) := by rw [Int.tdiv_eq_ediv_of_nonneg (by omega)]; omega
  refine Ev.congr (fun n => ?_) hj
  unfold geyserref03_Parities.f
  rw [et, ed]
  by_cases h : k % 8 > 0
  · rw [if_pos (by omega), Gy.wrap64_id (n := ((k / 8 : Nat) : Int)) (by omega) (by omega), Gy.wrap64_id (n := ((k / 8 : Nat) : Int) + 1) (by omega) (by omega), Gy.wrap64_id (by omega) (by omega)]
    congr 1; unfold numS; omega
  · rw [if_neg (by omega), Gy.wrap64_id (n := ((k / 8 : Nat) : Int)) (by omega) (by omega), Gy.wrap64_id (by omega) (by omega)]
    congr 1; unfold numS; omega
theorem plus_l0 (a b : List Int) (c : Nat) (ha : By a) (hb : By b) (hc : c < 256) (hl : b.length = a.length) (hn : a.length ≤ 9223372036854775807) : ∀ (d i k : Nat) (out : List Int), i + d = a.length → out.length = a.length → d + 20 < k →
    geyserref03_Plus.l0 k a b c out (a.length : Int) (i : Int) = some (out.take i ++ (plusL a b c).drop i) := by
  intro d
  have hpl := plusL_length hl c
  induction d with
  | zero =>
    intro i k out hi ho hk
    obtain ⟨k, rfl⟩ : ∃ m, k = m + 1 := ⟨k - 1, by omega⟩
    simp only [geyserref03_Plus.l0]
    rw [if_neg (by omega), List.drop_eq_nil_of_le (by omega), List.append_nil, List.take_of_length_le (by omega)]
  | succ d ih =>
    intro i k out hi ho hk
    obtain ⟨k, rfl⟩ : ∃ m, k = m + 1 := ⟨k - 1, by omega⟩
    simp only [geyserref03_Plus.l0]
    obtain ⟨m, hm, lm⟩ := ha.at i (by omega)
    obtain ⟨n, hn2, ln⟩ := hb.at i (by omega)
    rw [if_pos (by omega), if_pos (by omega), if_pos (by omega), if_pos (by omega), rd_at a i (by omega), rd_at b i (by omega), hm, hn2, rmul (by omega) ln hc, Option.bind_some, if_pos (by omega)]
    rw [Go.u8_xor_nat m (Gy.gmul n c) lm (Gy.gmul_lt ln hc), Gy.wrap64_id (by omega) (by omega), Int.toNat_natCast]
    rw [show ((i : Int) + 1) = ((i + 1 : Nat) : Int) from by omega]
    rw [ih (i + 1) k _ (by omega) (by rw [List.length_set]; omega) (by omega)]
    congr 1
    rw [List.take_succ_eq_append_getElem (by rw [List.length_set]; omega), List.drop_eq_getElem_cons (show i < (plusL a b c).length by omega), plusL_at c i (by omega) (by omega), hm, hn2, (addI_by c m n lm ln hc).1]
    rw [List.getElem_set_self, List.take_set, List.append_assoc]
    congr 1
    rw [List.set_eq_of_length_le (by rw [List.length_take]; omega)]
theorem plus_f {a b : List Int} {c k : Nat} (ha : By a) (hb : By b) (hc : c < 256) (hl : b.length = a.length) (hn : a.length ≤ 281474976710656) (hk : a.length + 20 < k) : geyserref03_Plus.f k a b c = some (plusL a b c) := by
  unfold geyserref03_Plus.f
  rw [if_pos (by omega), if_pos (by omega), Int.toNat_natCast]
  have h := plus_l0 a b c ha hb hc hl (by omega) a.length 0 k (List.replicate a.length 0) (by omega) (by rw [List.length_replicate]) hk
  rw [List.take_zero, List.nil_append, List.drop_zero] at h
  exact h
def lng (size : Int) (X : List (List Int)) : Bool := X.any fun r => decide ((r.length : Int) > size)
/-- what is wrong with sources -/
def wrongE (X : List (List Int)) (size : Int) : Int :=
  if size < 1 ∨ size > 256 then 1 else if X.length < 1 ∨ X.length > 64 then 5 else if lng size X = true then 3 else 0
theorem up63 {i n : Nat} (h : i < n) (hn : n ≤ 9223372036854775807) : wrap64 ((i : Int) + 1) = ((i + 1 : Nat) : Int) := by rw [Gy.wrap64_id (by omega) (by omega)]; omega
theorem rdL (l : List (List Int)) (i : Nat) (hi : i < l.length) : rd_L1 l (i : Int) = l[i] := by
  unfold rd_L1; rw [Int.toNat_natCast, List.getD_eq_getElem?_getD, List.getElem?_eq_getElem hi]; rfl
theorem lng_drop (size : Int) (X : List (List Int)) (i : Nat) (hi : i < X.length) : lng size (X.drop i) = (decide (((X[i]).length : Int) > size) || lng size (X.drop (i + 1))) := by
  rw [List.drop_eq_getElem_cons hi]; rfl
theorem wrong_l0 (X : List (List Int)) (size : Int) (hX : X.length ≤ 9223372036854775807) : ∀ (d i : Nat), i + d = X.length →
    Ev (fun n => geyserlaw07_Wrong.l0 n X size (X.length : Int) i) (if lng size (X.drop i) = true then 3 else 0) := by
  intro d
  induction d with
  | zero =>
    intro i hi
    rw [List.drop_eq_nil_of_le (by omega), if_neg (by simp [lng])]
    refine Ev.step (fun n => ?_) (Ev.now _)
    simp only [geyserlaw07_Wrong.l0]
    rw [if_neg (by omega)]
  | succ d ih =>
    intro i hi
    have hi' : i < X.length := by omega
    by_cases h : ((X[i]).length : Int) > size
    · rw [lng_drop size X i hi', decide_eq_true h, Bool.true_or, if_pos rfl]
      refine Ev.step (fun n => ?_) (Ev.now _)
      simp only [geyserlaw07_Wrong.l0]
      rw [if_pos (by omega), if_pos (by omega), if_pos (by omega), rdL X i hi', if_pos h]
    · rw [lng_drop size X i hi', decide_eq_false h, Bool.false_or]
      refine Ev.step (fun n => ?_) (ih (i + 1) (by omega))
      simp only [geyserlaw07_Wrong.l0]
      rw [if_pos (by omega), if_pos (by omega), if_pos (by omega), rdL X i hi', if_neg h, up63 hi' hX]
theorem check_l0 (X : List (List Int)) (size : Int) (hX : X.length ≤ 9223372036854775807) : ∀ (d i : Nat), i + d = X.length →
    Ev (fun n => precode_check.l0 n size X (X.length : Int) i) (if lng size (X.drop i) = true then 3 else 0) := by
  intro d
  induction d with
  | zero =>
    intro i hi
    rw [List.drop_eq_nil_of_le (by omega), if_neg (by simp [lng])]
    refine Ev.step (fun n => ?_) (Ev.now _)
    simp only [precode_check.l0]
    rw [if_neg (by omega)]
  | succ d ih =>
    intro i hi
    have hi' : i < X.length := by omega
    by_cases h : ((X[i]).length : Int) > size
    · rw [lng_drop size X i hi', decide_eq_true h, Bool.true_or, if_pos rfl]
      refine Ev.step (fun n => ?_) (Ev.now _)
      simp only [precode_check.l0]
      rw [if_pos (by omega), if_pos (by omega), if_pos (by omega), rdL X i hi', if_pos h]
    · rw [lng_drop size X i hi', decide_eq_false h, Bool.false_or]
      refine Ev.step (fun n => ?_) (ih (i + 1) (by omega))
      simp only [precode_check.l0]
      rw [if_pos (by omega), if_pos (by omega), if_pos (by omega), rdL X i hi', if_neg h, up63 hi' hX]
theorem wrong_f (X : List (List Int)) (size : Int) (hX : X.length ≤ 9223372036854775807) : Ev (fun n => geyserlaw07_Wrong.f n X size) (wrongE X size) := by
  have h0 := wrong_l0 X size hX X.length 0 (by omega)
  rw [List.drop_zero] at h0
  by_cases h1 : size < 1 ∨ size > 256
  · have e : wrongE X size = 1 := by unfold wrongE; rw [if_pos h1]
    rw [e]
    refine Ev.congr (f := fun n => geyserlaw07_Wrong.j0 n X size true) (fun n => ?_) (Ev.step (f := fun _ => some 1) (fun n => by simp only [geyserlaw07_Wrong.j0]; rfl) (Ev.now _))
    unfold geyserlaw07_Wrong.f
    by_cases h : size < 1
    · rw [if_pos h]
    · rw [if_neg h, show decide (size > 256) = true from by simp; omega]
  · refine Ev.congr (f := fun n => geyserlaw07_Wrong.j0 n X size false) (fun n => ?_) ?_
    · unfold geyserlaw07_Wrong.f
      rw [if_neg (by omega), show decide (size > 256) = false from by simp; omega]
    · by_cases h2 : X.length < 1 ∨ X.length > 64
      · have e : wrongE X size = 5 := by unfold wrongE; rw [if_neg h1, if_pos h2]
        rw [e]
        refine Ev.step (f := fun _ => some 5) (fun n => ?_) (Ev.now _)
        simp only [geyserlaw07_Wrong.j0]
        by_cases h : (X.length : Int) < 1
        · rw [if_neg (by decide), if_pos h]
        · rw [if_neg (by decide), if_neg h, if_pos (by omega)]
      · have e : wrongE X size = if lng size X = true then 3 else 0 := by unfold wrongE; rw [if_neg h1, if_neg h2]
        rw [e]
        refine Ev.step (fun n => ?_) h0
        simp only [geyserlaw07_Wrong.j0]
        rw [if_neg (by decide), if_neg (by omega), if_neg (by omega)]
        rfl
theorem check_f (X : List (List Int)) (size : Int) (hX : X.length ≤ 9223372036854775807) : Ev (fun n => precode_check.f n X size) (wrongE X size) := by
  have h0 := check_l0 X size hX X.length 0 (by omega)
  rw [List.drop_zero] at h0
  by_cases h1 : size < 1 ∨ size > 256
  · have e : wrongE X size = 1 := by unfold wrongE; rw [if_pos h1]
    rw [e]
    refine Ev.congr (f := fun n => precode_check.j0 n X size true) (fun n => ?_) (Ev.step (f := fun _ => some 1) (fun n => by simp only [precode_check.j0]; rfl) (Ev.now _))
    unfold precode_check.f
    by_cases h : size < 1
    · rw [if_pos h]
    · rw [if_neg h, show decide (size > 256) = true from by simp; omega]
  · refine Ev.congr (f := fun n => precode_check.j0 n X size false) (fun n => ?_) ?_
    · unfold precode_check.f
      rw [if_neg (by omega), show decide (size > 256) = false from by simp; omega]
    · by_cases h2 : X.length < 1 ∨ X.length > 64
      · have e : wrongE X size = 5 := by unfold wrongE; rw [if_neg h1, if_pos h2]
        rw [e]
        refine Ev.step (f := fun _ => some 5) (fun n => ?_) (Ev.now _)
        simp only [precode_check.j0]
        have hw : precode_wrong.f (X.length : Int) = some true := by
          unfold precode_wrong.f
          by_cases h : (X.length : Int) < 1
          · rw [if_pos h]
          · rw [if_neg h, show decide ((X.length : Int) > 64) = true from by simp; omega]
        rw [if_neg (by decide), hw]
        rfl
      · have e : wrongE X size = if lng size X = true then 3 else 0 := by unfold wrongE; rw [if_neg h1, if_neg h2]
        rw [e]
        refine Ev.step (fun n => ?_) h0
        simp only [precode_check.j0]
        have hw : precode_wrong.f (X.length : Int) = some false := by
          unfold precode_wrong.f
          rw [if_neg (by omega), show decide ((X.length : Int) > 64) = false from by simp; omega]
        rw [if_neg (by decide), hw]
        rfl
theorem fill_take {l : List Int} {n : Nat} (h : l.length ≤ n) : l ++ List.replicate (n - l.length) 0 = fillL l n := by
  unfold fillL; rw [List.take_of_length_le h]
theorem filled_l0 {X : List (List Int)} {size : Nat} (hs : size ≤ 256) (hX : X.length ≤ 64) (hr : ∀ r ∈ X, r.length ≤ size) : ∀ (d i : Nat), i + d = X.length →
    Ev (fun n => precode_filled.l0 n (size : Int) ((X.take i).map (fillL · size)) X (X.length : Int) i) (X.map (fillL · size)) := by
  intro d
  induction d with
  | zero =>
    intro i hi
    rw [List.take_of_length_le (by omega)]
    refine Ev.step (fun n => ?_) (Ev.now _)
    simp only [precode_filled.l0]
    rw [if_neg (by omega)]
  | succ d ih =>
    intro i hi
    have hi' : i < X.length := by omega
    have hl := hr _ (List.getElem_mem hi')
    refine Ev.step (fun n => ?_) (ih (i + 1) (by omega))
    simp only [precode_filled.l0]
    have hc : bytes_Clone.f X[i] = some X[i] := by unfold bytes_Clone.f; rw [if_pos (by omega)]
    have hw : wrap64 ((size : Int) - ((X[i]).length : Int)) = ((size - (X[i]).length : Nat) : Int) := by rw [Gy.wrap64_id (by omega) (by omega)]; omega
    rw [if_pos (by omega), if_pos (by omega), if_pos (by omega), rdL X i hi', hc, Option.bind_some, hw, if_pos (by omega), if_pos (by rw [Int.toNat_natCast]; omega), if_pos (by simp; omega), Int.toNat_natCast, fill_take hl, up63 hi' (by omega)]
    rw [List.take_succ_eq_append_getElem hi', List.map_append]
    rfl
theorem filled_f {X : List (List Int)} {size : Nat} (hs : size ≤ 256) (hX : X.length ≤ 64) (hr : ∀ r ∈ X, r.length ≤ size) : Ev (fun n => precode_filled.f n X (size : Int)) (X.map (fillL · size)) :=
  filled_l0 hs hX hr X.length 0 (by omega)
theorem fillL_by {l : List Int} (h : By l) (n : Nat) : By (fillL l n) := by
  intro x hx
  unfold fillL at hx
  rcases List.mem_append.1 hx with hx | hx
  · exact h x (List.mem_of_mem_take hx)
  · have := List.eq_of_mem_replicate hx; omega
/-- the sum of rows, so much of each -/
def sumL : List (List Int) → List Int → List Int → List Int
  | f :: F, c :: r, p => sumL F r (plusL p f c.toNat)
  | _, _, p => p
theorem addI_zero {x y : Int} (hx : 0 ≤ x) : addI 0 x y = x := by
  unfold addI
  rw [Gy.gmul_zero_right, Nat.xor_zero]
  omega
theorem plusL_zero {p f : List Int} (hp : By p) (hl : f.length = p.length) : plusL p f 0 = p := by
  apply List.ext_getElem (plusL_length hl 0)
  intro i h1 h2
  rw [plusL_at 0 i h2 (by omega), addI_zero (hp _ (List.getElem_mem h2)).1]
structure Rws (F : List (List Int)) (size : Nat) : Prop where
  len : ∀ f ∈ F, f.length = size
  b : ∀ f ∈ F, By f
theorem par_l1 {size : Nat} (hs : size ≤ 256) {F : List (List Int)} (hF : Rws F size) {r : List Int} (hr : By r) (hl : r.length = F.length) (hF64 : F.length ≤ 64) {M : List (List Int)} {Ml j : Int} (acc : List (List Int)) (hacc : acc.length ≤ 100) {R : List (List Int) × Int} :
    ∀ (d i : Nat) (p : List Int), i + d = F.length → p.length = size → By p → Ev (fun n => precode_Parities.l0 n size F (acc ++ [sumL (F.drop i) (r.drop i) p]) M Ml (wrap64 (j + 1))) R →
    Ev (fun n => precode_Parities.l1 n size F acc p M Ml j r (r.length : Int) i) R := by
  intro d
  induction d with
  | zero =>
    intro i p hi hp hb h
    rw [List.drop_eq_nil_of_le (by omega)] at h
    refine Ev.step (fun n => ?_) h
    simp only [precode_Parities.l1]
    rw [if_neg (by omega), if_pos (by omega)]
    rfl
  | succ d ih =>
    intro i p hi hp hb h
    have hi' : i < F.length := by omega
    have hir : i < r.length := by omega
    have hlen := hF.len _ (List.getElem_mem hi')
    have hfb := hF.b _ (List.getElem_mem hi')
    rw [List.drop_eq_getElem_cons hi', List.drop_eq_getElem_cons hir] at h
    obtain ⟨c, hc, lc⟩ := hr.at i hir
    have hpl := plusL_length (a := p) (b := F[i]) (by omega) c
    have hs2 : sumL (F[i] :: F.drop (i + 1)) (r[i] :: r.drop (i + 1)) p = sumL (F.drop (i + 1)) (r.drop (i + 1)) (plusL p F[i] c) := by
      show sumL _ _ (plusL p F[i] (r[i]).toNat) = _
      rw [hc, Int.toNat_natCast]
    rw [hs2] at h
    have h' := ih (i + 1) (plusL p F[i] c) (by omega) (by omega) (plusL_by hb hfb lc (by omega)) h
    refine Ev.step (fun n => ?_) h'
    simp only [precode_Parities.l1]
    rw [if_pos (by omega), if_pos (by omega), if_pos (by omega), rd_at r i hir, hc]
    by_cases h0 : c = 0
    · subst h0
      rw [if_pos (by rfl), up63 hi' (by omega), plusL_zero hb (by omega)]
    · have hx : vector_Axpy.f p F[i] (c : Int) = some (plusL p F[i] c, 0) := by
        unfold vector_Axpy.f
        rw [if_pos (by omega), if_pos ⟨by omega, by_okB hb, by_okB hfb, by omega, by omega⟩, Int.toNat_natCast]
      rw [if_neg (by omega), if_pos (by omega), rdL F i hi', hx, Option.bind_some, up63 hi' (by omega)]
theorem zeros_by (n : Nat) : By (List.replicate n 0) := by
  intro x hx
  have := List.eq_of_mem_replicate hx
  omega
/-- the symbol of a row of numbers -/
def symL (F : List (List Int)) (size : Nat) (r : List Int) : List Int := sumL F r (List.replicate size 0)
theorem par_l0 {size : Nat} (hs1 : 1 ≤ size) (hs : size ≤ 256) {F : List (List Int)} (hF : Rws F size) (hF64 : F.length ≤ 64) {M : List (List Int)} (hM : ∀ r ∈ M, By r ∧ r.length = F.length) (hMl : M.length ≤ 20) :
    ∀ (d j : Nat), j + d = M.length → Ev (fun n => precode_Parities.l0 n size F ((M.take j).map (symL F size)) M (M.length : Int) j) (M.map (symL F size), 0) := by
  intro d
  induction d with
  | zero =>
    intro j hj
    rw [List.take_of_length_le (by omega)]
    refine Ev.step (fun n => ?_) (Ev.now _)
    simp only [precode_Parities.l0]
    rw [if_neg (by omega)]
  | succ d ih =>
    intro j hj
    have hj' : j < M.length := by omega
    have h1 := ih (j + 1) (by omega)
    obtain ⟨hb, hl⟩ := hM _ (List.getElem_mem hj')
    rw [List.take_succ_eq_append_getElem hj', List.map_append, ← up63 hj' (by omega)] at h1
    have h2 := par_l1 hs hF hb hl hF64 (M := M) (Ml := (M.length : Int)) (j := (j : Int)) ((M.take j).map (symL F size)) (by rw [List.length_map, List.length_take]; omega) F.length 0 (List.replicate size 0) (by omega) (by simp) (zeros_by size) h1
    refine Ev.step (fun n => ?_) h2
    simp only [precode_Parities.l0]
    rw [if_pos (by omega), if_pos (by omega), if_pos (by omega), if_pos (by omega), if_pos (by rw [Int.toNat_natCast]; omega), Int.toNat_natCast, rdL M j hj']
    rfl
theorem sym_l0 {size : Nat} (hs : size ≤ 256) {X : List (List Int)} (hX : X.length ≤ 64) (hXl : ∀ f ∈ X, f.length ≤ 300) (hXb : ∀ f ∈ X, By f) {r : List Int} (hr : By r) (hl : r.length = X.length) :
    ∀ (d i : Nat) (p : List Int), i + d = X.length → p.length = size → By p → Ev (fun n => geyserref03_Symbol.l0 n X size r p (X.length : Int) i) (sumL ((X.map (fillL · size)).drop i) (r.drop i) p) := by
  intro d
  induction d with
  | zero =>
    intro i p hi hp hb
    rw [List.drop_eq_nil_of_le (by rw [List.length_map]; omega)]
    refine Ev.step (fun n => ?_) (Ev.now _)
    simp only [geyserref03_Symbol.l0]
    rw [if_neg (by omega)]
    rfl
  | succ d ih =>
    intro i p hi hp hb
    have hi' : i < X.length := by omega
    have hir : i < r.length := by omega
    have hfb := fillL_by (hXb _ (List.getElem_mem hi')) size
    have hfl := fillL_length X[i] size
    obtain ⟨c, hc, lc⟩ := hr.at i hir
    rw [List.drop_eq_getElem_cons (by rw [List.length_map]; exact hi'), List.drop_eq_getElem_cons hir]
    have hs2 : sumL ((X.map (fillL · size))[i]'(by rw [List.length_map]; exact hi') :: (X.map (fillL · size)).drop (i + 1)) (r[i] :: r.drop (i + 1)) p = sumL ((X.map (fillL · size)).drop (i + 1)) (r.drop (i + 1)) (plusL p (fillL X[i] size) c) := by
      show sumL _ _ (plusL p _ (r[i]).toNat) = _
      rw [hc, Int.toNat_natCast, List.getElem_map]
    rw [hs2]
    have hpl := plusL_length (a := p) (b := fillL X[i] size) (by omega) c
    have hf : geyserref03_Fill.f X[i] (size : Int) = some (fillL X[i] size) := by
      unfold geyserref03_Fill.f
      rw [if_pos ⟨by omega, by omega, by have := hXl _ (List.getElem_mem hi'); omega⟩, Int.toNat_natCast]
    have hplus : Ev (fun n => geyserref03_Plus.f n p (fillL X[i] size) (c : Int)) (plusL p (fillL X[i] size) c) := ⟨p.length + 21, fun n hn => plus_f hb hfb lc (by omega) (by omega) (by omega)⟩
    refine Ev.step (f := fun n => (geyserref03_Plus.f n p (fillL X[i] size) (c : Int)).bind fun t => geyserref03_Symbol.l0 n X size r t (X.length : Int) ((i + 1 : Nat) : Int)) (fun n => ?_) (Ev.bind hplus (ih (i + 1) _ (by omega) (by omega) (plusL_by hb hfb lc (by omega))))
    simp only [geyserref03_Symbol.l0]
    rw [if_pos (by omega), if_pos (by omega), if_pos (by omega), rdL X i hi', hf, Option.bind_some, if_pos (by omega), rd_at r i hir, hc, up63 hi' (by omega)]
theorem sym_f {size : Nat} (hs : size ≤ 256) {X : List (List Int)} (hX : X.length ≤ 64) (hXl : ∀ f ∈ X, f.length ≤ 300) (hXb : ∀ f ∈ X, By f) {r : List Int} (hr : By r) (hl : r.length = X.length) :
    Ev (fun n => geyserref03_Symbol.f n X size r) (symL (X.map (fillL · size)) size r) := by
  have h := sym_l0 hs hX hXl hXb hr hl X.length 0 (List.replicate size 0) (by omega) (by simp) (zeros_by size)
  refine Ev.congr (fun n => ?_) h
  unfold geyserref03_Symbol.f
  rw [if_pos (by omega), if_pos (by rw [Int.toNat_natCast]; omega), Int.toNat_natCast]
  rfl
theorem law_l0 {size : Nat} (hs : size ≤ 256) {X : List (List Int)} (hX : X.length ≤ 64) (hXl : ∀ f ∈ X, f.length ≤ 300) (hXb : ∀ f ∈ X, By f) {M : List (List Int)} (hM : ∀ r ∈ M, By r ∧ r.length = X.length) (hMl : M.length ≤ 20) :
    ∀ (d j : Nat), j + d = M.length → Ev (fun n => geyserlaw07_PrecodeParities.l0 n X size (M.map (symL (X.map (fillL · size)) size)) M (M.length : Int) j) true := by
  intro d
  induction d with
  | zero =>
    intro j hj
    refine Ev.step (fun n => ?_) (Ev.now _)
    simp only [geyserlaw07_PrecodeParities.l0]
    rw [if_neg (by omega)]
  | succ d ih =>
    intro j hj
    have hj' : j < M.length := by omega
    obtain ⟨hb, hl⟩ := hM _ (List.getElem_mem hj')
    refine Ev.step (f := fun n => (geyserref03_Symbol.f n X size M[j]).bind fun t => if (strOfNums (symL (X.map (fillL · size)) size M[j])).toList = (strOfNums t).toList then geyserlaw07_PrecodeParities.l0 n X size (M.map (symL (X.map (fillL · size)) size)) M (M.length : Int) ((j + 1 : Nat) : Int) else some false) (fun n => ?_) ?_
    · simp only [geyserlaw07_PrecodeParities.l0]
      rw [if_pos (by omega), if_pos (by omega), if_pos (by rw [List.length_map]; omega), if_pos (by omega), rdL M j hj', rdL _ j (by rw [List.length_map]; omega), List.getElem_map, up63 hj' (by omega)]
    · refine Ev.bind (sym_f hs hX hXl hXb hb hl) ?_
      refine Ev.congr (fun n => ?_) (ih (j + 1) (by omega))
      rw [if_pos rfl]
theorem ent_by {s j c : Nat} : 0 ≤ ent s j c ∧ ent s j c < 256 := by
  unfold ent
  split
  · split <;> omega
  · have := pw_lt (a := 2) (by omega) (((c + 1) * (j - s + 1) : Nat) : Int); omega
theorem src_l0 (X : List (List Int)) (hX : X.length ≤ 9223372036854775807) : ∀ (d i : Nat), i + d = X.length → i ≤ 70 → (∀ j (h : j < X.length), j < i → X[j].length ≤ 300) →
    ∃ b, Ev (fun n => geyserlaw07_Sources.l0 n X (X.length : Int) i) b ∧ (b = true → X.length ≤ 70 ∧ ∀ j (h : j < X.length), X[j].length ≤ 300) := by
  intro d
  induction d with
  | zero =>
    intro i hi h70 hb
    refine ⟨true, Ev.step (fun n => ?_) (Ev.now _), fun _ => ⟨by omega, fun j h => hb j h (by omega)⟩⟩
    simp only [geyserlaw07_Sources.l0]
    rw [if_neg (by omega)]
  | succ d ih =>
    intro i hi h70 hb
    have hi' : i < X.length := by omega
    by_cases h1 : i ≥ 70
    · refine ⟨false, Ev.step (fun n => ?_) (Ev.now _), fun h => by cases h⟩
      simp only [geyserlaw07_Sources.l0]
      rw [if_pos (by omega), if_pos (by omega)]
    · by_cases h2 : ((X[i]).length : Int) > 300
      · refine ⟨false, Ev.step (fun n => ?_) (Ev.now _), fun h => by cases h⟩
        simp only [geyserlaw07_Sources.l0]
        rw [if_pos (by omega), if_neg (by omega), if_pos (by omega), if_pos (by omega), rdL X i hi', if_pos h2]
      · obtain ⟨b, hE, hh⟩ := ih (i + 1) (by omega) (by omega) (fun j h hj => by
          by_cases e : j = i
          · subst e; omega
          · exact hb j h (by omega))
        refine ⟨b, Ev.step (fun n => ?_) hE, hh⟩
        simp only [geyserlaw07_Sources.l0]
        rw [if_pos (by omega), if_neg (by omega), if_pos (by omega), if_pos (by omega), rdL X i hi', if_neg h2, up63 hi' hX]
theorem PrecodeParities (X : List (List Int)) (size : Int) (hX : X.length ≤ 9223372036854775807) (hb : ∀ r ∈ X, By r) : ∃ k, geyserlaw07_PrecodeParities.f k X size = some true := by
  refine Ev.rounds ?_
  have hw : geyserlaw07_awake.f = some true := by
    unfold geyserlaw07_awake.f
    have := p_count (k := 8) (by omega) (by omega)
    rw [show ((8 : Nat) : Int) = 8 from rfl] at this
    rw [this, Option.bind_some]
    decide
  obtain ⟨b, hS, hB⟩ := src_l0 X hX X.length 0 (by omega) (by omega) (fun j h hj => by omega)
  have hS' : Ev (fun n => geyserlaw07_Sources.f n X) b := hS
  refine Ev.congr (f := fun n => (geyserlaw07_Sources.f n X).bind fun t => geyserlaw07_PrecodeParities.j0 n X size (!t)) (fun n => ?_) (Ev.bind hS' ?_)
  · unfold geyserlaw07_PrecodeParities.f
    rw [hw, Option.bind_some, if_pos rfl]
  cases b with
  | false =>
    refine Ev.step (f := fun _ => some true) (fun n => ?_) (Ev.now _)
    simp only [geyserlaw07_PrecodeParities.j0]
    rw [if_pos (by decide), hw]
    rfl
  | true =>
    obtain ⟨h70, h300⟩ := hB rfl
    by_cases h0 : wrongE X size = 0
    · have hsz : ¬ (size < 1 ∨ size > 256) := fun h => by unfold wrongE at h0; rw [if_pos h] at h0; omega
      have hln : ¬ (X.length < 1 ∨ X.length > 64) := fun h => by unfold wrongE at h0; rw [if_neg hsz, if_pos h] at h0; omega
      have hlg : ¬ lng size X = true := fun h => by unfold wrongE at h0; rw [if_neg hsz, if_neg hln, if_pos h] at h0; omega
      obtain ⟨sz, rfl⟩ : ∃ m : Nat, size = m := ⟨size.toNat, by omega⟩
      have hr : ∀ r ∈ X, r.length ≤ sz := fun r h => by
        rcases Nat.lt_or_ge sz r.length with h' | h'
        · exact absurd (List.any_eq_true.2 ⟨r, h, decide_eq_true (by omega)⟩) hlg
        · exact h'
      have hk := numS_b (k := X.length) (by omega) (by omega)
      have hML := mat_len (numS X.length + 2) X.length (ent (numS X.length))
      have hFl : (X.map (fillL · sz)).length = X.length := by rw [List.length_map]
      have hM : ∀ r ∈ mat (numS X.length + 2) X.length (ent (numS X.length)), By r ∧ r.length = X.length := by
        intro r hr
        unfold mat at hr
        obtain ⟨j, _, rfl⟩ := List.mem_map.1 hr
        refine ⟨fun x hx => ?_, by simp⟩
        obtain ⟨c, _, rfl⟩ := List.mem_map.1 hx
        exact ent_by
      have hF : Rws (X.map (fillL · sz)) sz := ⟨fun f hf => by obtain ⟨r, _, rfl⟩ := List.mem_map.1 hf; exact fillL_length r sz, fun f hf => by obtain ⟨r, hr, rfl⟩ := List.mem_map.1 hf; exact fillL_by (hb r hr) sz⟩
      have hrow := p_rows (k := X.length) (by omega) (by omega)
      have hpar := r_par (k := X.length) (by omega) (by omega)
      generalize mat (numS X.length + 2) X.length (ent (numS X.length)) = M at hrow hpar hM hML
      have hP : Ev (fun n => precode_Parities.f n X (sz : Int)) (M.map (symL (X.map (fillL · sz)) sz), 0) := by
        have hl0 := par_l0 (by omega) (by omega) hF (by omega) (M := M) (fun r h => by rw [hFl]; exact hM r h) (by omega) M.length 0 (by omega)
        have hch := check_f X sz hX
        rw [h0] at hch
        refine Ev.congr (f := fun n => (precode_check.f n X (sz : Int)).bind fun t => if t = 0 then ((precode_filled.f n X (sz : Int)).bind fun t146 => ((precode_Rows.f n (t146.length : Int)).bind fun t149 => (precode_Parities.l0 n (sz : Int) t146 ([] : List (List Int)) t149 (t149.length : Int) 0))) else some ([], t)) (fun n => rfl) (Ev.bind hch ?_)
        refine Ev.congr (fun n => if_pos rfl) (Ev.bind (filled_f (by omega) (by omega) hr) ?_)
        rw [hFl]
        exact Ev.bind hrow hl0
      have hW := wrong_f X sz hX
      rw [h0] at hW
      have hL := law_l0 (size := sz) (by omega) (by omega) (fun f hf => by obtain ⟨j, hj, rfl⟩ := List.mem_iff_getElem.1 hf; exact h300 j hj) hb hM (by omega) M.length 0 (by omega)
      refine Ev.step (f := fun n => (precode_Parities.f n X (sz : Int)).bind fun bt => ((geyserlaw07_Wrong.f n X (sz : Int)).bind fun t => (if t = 0 then ((geyserref03_Parities.f n (X.length : Int)).bind fun u => (if bt.2 = 0 then (geyserlaw07_PrecodeParities.j1 n X sz bt.1 u ((bt.1.length : Int) != (u.length : Int))) else (geyserlaw07_PrecodeParities.j1 n X sz bt.1 u true))) else (if bt.2 = t then (some ((bt.1.length : Int) == 0)) else (some false))))) (fun n => ?_) ?_
      · simp only [geyserlaw07_PrecodeParities.j0]
        rw [if_neg (by decide)]
      · refine Ev.bind hP (Ev.bind hW (Ev.congr (fun n => if_pos rfl) (Ev.bind hpar ?_)))
        refine Ev.congr (f := fun n => geyserlaw07_PrecodeParities.j1 n X sz (M.map (symL (X.map (fillL · sz)) sz)) M false) (fun n => ?_) ?_
        · rw [if_pos rfl, List.length_map]
          simp
        · refine Ev.step (fun n => ?_) hL
          simp only [geyserlaw07_PrecodeParities.j1]
          rw [if_neg (by decide)]
          rfl
    · have hW := wrong_f X size hX
      have hP : Ev (fun n => precode_Parities.f n X size) ([], wrongE X size) := by
        refine Ev.congr (f := fun n => (precode_check.f n X size).bind fun t => if t = 0 then ((precode_filled.f n X size).bind fun t146 => ((precode_Rows.f n (t146.length : Int)).bind fun t149 => (precode_Parities.l0 n size t146 ([] : List (List Int)) t149 (t149.length : Int) 0))) else some ([], t)) (fun n => rfl) (Ev.bind (check_f X size hX) ?_)
        exact Ev.congr (fun n => if_neg h0) (Ev.now _)
      refine Ev.step (f := fun n => (precode_Parities.f n X size).bind fun bt => ((geyserlaw07_Wrong.f n X size).bind fun t => (if t = 0 then ((geyserref03_Parities.f n (X.length : Int)).bind fun u => (if bt.2 = 0 then (geyserlaw07_PrecodeParities.j1 n X size bt.1 u ((bt.1.length : Int) != (u.length : Int))) else (geyserlaw07_PrecodeParities.j1 n X size bt.1 u true))) else (if bt.2 = t then (some ((bt.1.length : Int) == 0)) else (some false))))) (fun n => ?_) ?_
      · simp only [geyserlaw07_PrecodeParities.j0]
        rw [if_neg (by decide)]
      · refine Ev.bind hP (Ev.bind hW (Ev.congr (fun n => if_neg h0) (Ev.congr (fun n => if_pos rfl) (Ev.now _))))

end Go.Proofs.Ytcmigmldecacpaa.Pure
