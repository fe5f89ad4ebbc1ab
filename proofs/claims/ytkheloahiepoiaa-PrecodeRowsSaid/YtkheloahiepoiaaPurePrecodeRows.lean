/- The parities' numbers, of any number of sources, are what the document says. No condition beyond the kind of the argument. -/
import Derived.Test.YtkheloahiepoiaaQPrecodeRowsx4
import Derived.Test.YtkheloahiepoiaaGf
import Derived.Test.YtkheloahiepoiaaBt
namespace Go.Proofs.Ytkheloahiepoiaa.Pure
open Go Go.RowKit Go.Proofs.Ytkheloahiepoiaa.QPrecodeRows Go.Proofs.YtkheloahiepoiaaW.PrintWords Go.Proofs.YtkheloahiepoiaaW.PrintLast

theorem gmulAux_zero : ∀ (f s x : Nat), Gy.gmulAux f s x 0 = s := by
  intro f
  induction f with
  | zero => intro s x; rfl
  | succ f ih => intro s x; unfold Gy.gmulAux; rw [if_neg (by decide)]; exact ih _ _
theorem w2 {x : Nat} (h : x < 256) : wrap64 ((x : Int) * 2) = ((x * 2 : Nat) : Int) := by unfold wrap64; omega
theorem half (y : Nat) : (y : Int) / 2 = ((y / 2 : Nat) : Int) := by omega
theorem fm_l0 : ∀ (f s x y k : Nat), s < 256 → x < 256 → y < 2 ^ f → y < 256 → f < k → field_Mul.l0 k s x y = some ((Gy.gmulAux f s x y : Nat) : Int) := by
  intro f
  induction f with
  | zero =>
    intro s x y k hs hx hy _ hk
    obtain ⟨k, rfl⟩ : ∃ m, k = m + 1 := ⟨k - 1, by omega⟩
    obtain rfl : y = 0 := by simp at hy; omega
    simp only [field_Mul.l0]
    rw [if_neg (by omega)]
    show some ((s : Int) % 256) = some (s : Int)
    congr 1; omega
  | succ f ih =>
    intro s x y k hs hx hy hy2 hk
    obtain ⟨k, rfl⟩ : ∃ m, k = m + 1 := ⟨k - 1, by omega⟩
    by_cases h0 : y = 0
    · subst h0
      rw [gmulAux_zero]
      simp only [field_Mul.l0]
      rw [if_neg (by omega)]
      congr 1; omega
    · simp only [field_Mul.l0]
      rw [if_pos (by omega), Gy.i64_and1 y (by omega), w2 hx, Gy.i64_xor s x (by omega) (by omega), half]
      have e285 : Go.bits .xor .i64 ((x * 2 : Nat) : Int) 285 = ((((x * 2) ^^^ 285) : Nat) : Int) := Gy.i64_xor (x * 2) 285 (by omega) (by omega)
      rw [e285]
      have hxt := Gy.xt_lt hx
      have hsx := Gy.xor_lt8 hs hx
      have hy' : y / 2 < 2 ^ f := by rw [Nat.pow_succ] at hy; omega
      have hm : Gy.gmulAux (f + 1) s x y = Gy.gmulAux f (if y % 2 = 1 then s ^^^ x else s) (Gy.xt x) (y / 2) := rfl
      by_cases h1 : y % 2 = 1
      · rw [if_pos (by omega)]
        rw [if_pos h1] at hm
        by_cases h2 : x * 2 > 255
        · have ex : Gy.xt x = (x * 2) ^^^ 285 := by unfold Gy.xt; rw [if_pos h2]
          rw [if_pos (by omega), hm, ← ex]
          exact ih _ _ _ _ hsx hxt hy' (by omega) (by omega)
        · have ex : Gy.xt x = x * 2 := by unfold Gy.xt; rw [if_neg h2]
          rw [if_neg (by omega), hm, ← ex]
          exact ih _ _ _ _ hsx hxt hy' (by omega) (by omega)
      · rw [if_neg (by omega)]
        rw [if_neg h1] at hm
        by_cases h2 : x * 2 > 255
        · have ex : Gy.xt x = (x * 2) ^^^ 285 := by unfold Gy.xt; rw [if_pos h2]
          rw [if_pos (by omega), hm, ← ex]
          exact ih _ _ _ _ hs hxt hy' (by omega) (by omega)
        · have ex : Gy.xt x = x * 2 := by unfold Gy.xt; rw [if_neg h2]
          rw [if_neg (by omega), hm, ← ex]
          exact ih _ _ _ _ hs hxt hy' (by omega) (by omega)
theorem fmul {k : Nat} (hk : 9 ≤ k) {a b : Nat} (ha : a < 256) (hb : b < 256) : field_Mul.f k a b = some ((Gy.gmul a b : Nat) : Int) := by
  unfold field_Mul.f
  rw [Gy.wrap64_id (by omega) (by omega), Gy.wrap64_id (by omega) (by omega)]
  exact fm_l0 8 0 a b k (by omega) ha hb hb (by omega)
theorem shr_u8 (b : Nat) (i : Nat) (hi : i < 8) : shr .u8 (b : Int) (IntKind.u64.wrap (i : Int)) = ((b / 2 ^ i : Nat) : Int) := by
  unfold shr
  rw [Gy.u64_wrap_id (by omega) (by omega)]
  have e : min ((i : Int)).toNat (IntKind.bits .u8) = i := by show min i 8 = i; omega
  rw [e]
  norm_cast
theorem pow_lt8 {i : Nat} (h : i < 8) : 2 ^ i ≤ 128 := by
  have : 2 ^ i ≤ 2 ^ 7 := Nat.pow_le_pow_right (by omega) (by omega)
  exact this
theorem shl_i64 {a : Nat} (ha : a < 512) (i : Nat) (hi : i < 8) : shl .i64 (a : Int) (IntKind.u64.wrap (i : Int)) = ((a * 2 ^ i : Nat) : Int) := by
  unfold shl
  rw [Gy.u64_wrap_id (by omega) (by omega)]
  have e : min ((i : Int)).toNat (IntKind.bits .i64) = i := by show min i 64 = i; omega
  rw [e]
  have h1 := pow_lt8 hi
  have h2 : a * 2 ^ i ≤ 511 * 128 := Nat.mul_le_mul (by omega) h1
  have e2 : (a : Int) * 2 ^ i = ((a * 2 ^ i : Nat) : Int) := by norm_cast
  rw [e2, Gy.wrapI64]
  omega
theorem shr_i64 (v : Nat) (i : Nat) (hi : i < 64) : shr .i64 (v : Int) (IntKind.u64.wrap (i : Int)) = ((v / 2 ^ i : Nat) : Int) := by
  unfold shr
  rw [Gy.u64_wrap_id (by omega) (by omega)]
  have e : min ((i : Int)).toNat (IntKind.bits .i64) = i := by show min i 64 = i; omega
  rw [e]
  norm_cast
theorem rm_l1 : ∀ (f v k : Nat), f ≤ 7 → v < 2 ^ 20 → f < k → geyserref03_Mul.l1 k v ((f : Int) + 7) = some ((Gy.rmulR f v % 256 : Nat) : Int) := by
  intro f
  induction f with
  | zero =>
    intro v k _ hv hk
    obtain ⟨k, rfl⟩ : ∃ m, k = m + 1 := ⟨k - 1, by omega⟩
    simp only [geyserref03_Mul.l1]
    rw [if_neg (by omega)]
    rfl
  | succ f ih =>
    intro v k hf hv hk
    obtain ⟨k, rfl⟩ : ∃ m, k = m + 1 := ⟨k - 1, by omega⟩
    have e8 : ((f + 1 : Nat) : Int) + 7 = ((f + 8 : Nat) : Int) := by omega
    rw [e8]
    simp only [geyserref03_Mul.l1]
    rw [if_pos (by omega), if_pos (by rw [Gy.u64_wrap_id (by omega) (by omega)]; omega)]
    rw [shr_i64 v (f + 8) (by omega), Gy.i64_and1 _ (Nat.lt_of_le_of_lt (Nat.div_le_self _ _) (by omega))]
    have em1 : wrap64 (((f + 8 : Nat) : Int) - 1) = (f : Int) + 7 := by rw [Gy.wrap64_id (by omega) (by omega)]; omega
    have em8 : wrap64 (((f + 8 : Nat) : Int) - 8) = (f : Int) := by rw [Gy.wrap64_id (by omega) (by omega)]; omega
    rw [em1, em8]
    have hm : Gy.rmulR (f + 1) v = Gy.rmulR f (if (v / 2 ^ (f + 8)) % 2 = 1 then v ^^^ (285 * 2 ^ f) else v) := rfl
    have e285 : shl .i64 (285 : Int) (IntKind.u64.wrap (f : Int)) = ((285 * 2 ^ f : Nat) : Int) := shl_i64 (a := 285) (by omega) f (by omega)
    have hp := pow_lt8 (i := f) (by omega)
    rw [e285, Gy.i64_xor v (285 * 2 ^ f) (by omega) (by omega)]
    by_cases h1 : (v / 2 ^ (f + 8)) % 2 = 1
    · rw [if_pos (by omega), if_pos (by rw [Gy.u64_wrap_id (by omega) (by omega)]; omega), hm, if_pos h1]
      exact ih _ _ (by omega) (Gy.xor_lt 20 hv (by omega)) (by omega)
    · rw [if_neg (by omega), hm, if_neg h1]
      exact ih _ _ (by omega) hv (by omega)
theorem rm_l0 : ∀ (f i : Nat) (a b v k : Nat), f + i = 8 → a < 256 → b < 256 → v < 2 ^ 20 → f + 9 < k →
    geyserref03_Mul.l0 k a b v i = some ((Gy.rmulR 7 (Gy.rmulV f a b v i) % 256 : Nat) : Int) := by
  intro f
  induction f with
  | zero =>
    intro i a b v k hi ha hb hv hk
    obtain ⟨k, rfl⟩ : ∃ m, k = m + 1 := ⟨k - 1, by omega⟩
    simp only [geyserref03_Mul.l0]
    rw [if_neg (by omega)]
    exact rm_l1 7 v k (by omega) hv (by omega)
  | succ f ih =>
    intro i a b v k hi ha hb hv hk
    obtain ⟨k, rfl⟩ : ∃ m, k = m + 1 := ⟨k - 1, by omega⟩
    simp only [geyserref03_Mul.l0]
    rw [if_pos (by omega), if_pos (by rw [Gy.u64_wrap_id (by omega) (by omega)]; omega)]
    rw [shr_u8 b i (by omega), Gy.u8_and1 _ (Nat.lt_of_le_of_lt (Nat.div_le_self _ _) hb)]
    have e1 : wrap64 ((i : Int) + 1) = ((i + 1 : Nat) : Int) := by rw [Gy.wrap64_id (by omega) (by omega)]; omega
    rw [e1, Gy.wrap64_id (by omega) (by omega), shl_i64 (by omega) i (by omega)]
    have hp := pow_lt8 (i := i) (by omega)
    have hav : a * 2 ^ i ≤ 255 * 128 := Nat.mul_le_mul (by omega) hp
    rw [Gy.i64_xor v (a * 2 ^ i) (by omega) (by omega)]
    have hm : Gy.rmulV (f + 1) a b v i = Gy.rmulV f a b (if (b / 2 ^ i) % 2 = 1 then v ^^^ (a * 2 ^ i) else v) (i + 1) := rfl
    by_cases h1 : (b / 2 ^ i) % 2 = 1
    · rw [if_pos (by omega), hm, if_pos h1]
      exact ih _ _ _ _ _ (by omega) ha hb (Gy.xor_lt 20 hv (by omega)) (by omega)
    · rw [if_neg (by omega), hm, if_neg h1]
      exact ih _ _ _ _ _ (by omega) ha hb hv (by omega)
theorem rmul_def (a b : Nat) : Gy.rmul a b = Gy.rmulR 7 (Gy.rmulV 8 a b 0 0) % 256 := by unfold Gy.rmul; rfl
theorem rmul {k : Nat} (hk : 18 ≤ k) {a b : Nat} (ha : a < 256) (hb : b < 256) : geyserref03_Mul.f k a b = some ((Gy.gmul a b : Nat) : Int) := by
  have h := rm_l0 8 0 a b 0 k (by omega) ha hb (by omega) (by omega)
  rw [← rmul_def, Gy.rmul_eq ha hb] at h
  exact h
theorem fp_l0 : ∀ (f out a n k : Nat), out < 256 → a < 256 → n < 2 ^ f → n < 4294967296 → f + 9 < k → field_power.l0 k a n out = some ((Gy.powAux f out a n : Nat) : Int) := by
  intro f
  induction f with
  | zero =>
    intro out a n k ho ha hn _ hk
    obtain ⟨k, rfl⟩ : ∃ m, k = m + 1 := ⟨k - 1, by omega⟩
    obtain rfl : n = 0 := by simp at hn; omega
    simp only [field_power.l0]
    rw [if_neg (by omega)]
    rfl
  | succ f ih =>
    intro out a n k ho ha hn hn2 hk
    obtain ⟨k, rfl⟩ : ∃ m, k = m + 1 := ⟨k - 1, by omega⟩
    simp only [field_power.l0]
    by_cases h0 : n = 0
    · subst h0
      rw [if_neg (by omega)]
      unfold Gy.powAux
      rw [if_pos rfl]
    · have hn' : n / 2 < 2 ^ f := by rw [Nat.pow_succ] at hn; omega
      rw [if_pos (by omega), Gy.i64_and1 n (by omega), fmul (by omega) ho ha, fmul (by omega) ha ha, half]
      simp only [Option.bind_some]
      have hm : Gy.powAux (f + 1) out a n = Gy.powAux f (if n % 2 = 1 then Gy.gmul out a else out) (Gy.gmul a a) (n / 2) := by
        conv => lhs; unfold Gy.powAux
        rw [if_neg h0]
      by_cases h1 : n % 2 = 1
      · rw [if_pos (by omega), hm, if_pos h1]
        exact ih _ _ _ _ (Gy.gmul_lt ho ha) (Gy.gmul_lt ha ha) hn' (by omega) (by omega)
      · rw [if_neg (by omega), hm, if_neg h1]
        exact ih _ _ _ _ ho (Gy.gmul_lt ha ha) hn' (by omega) (by omega)
theorem fpower {k : Nat} (hk : 18 ≤ k) {a n : Nat} (ha : a < 256) (hn : n < 256) : field_power.f k a n = some ((Gy.gpow a n : Nat) : Int) := by
  unfold field_power.f
  have h := fp_l0 8 1 a n k (by omega) ha hn (by omega) (by omega)
  rw [Gy.powAux_eq 8 1 a n (by omega) ha hn, Gy.gmul_one_left (Gy.gpow_lt ha n)] at h
  exact h
theorem emod_tmod (n : Int) : Int.tmod (Int.tmod n 255 + 255) 255 = n % 255 := by
  rcases Int.le_total 0 n with h | h
  · rw [Int.tmod_eq_emod_of_nonneg h, Int.tmod_eq_emod_of_nonneg (by omega)]; omega
  · have e : Int.tmod n 255 = - ((-n) % 255) := by
      conv => lhs; rw [show n = - (-n) from by omega]
      rw [Int.neg_tmod, Int.tmod_eq_emod_of_nonneg (by omega)]
    rw [e, Int.tmod_eq_emod_of_nonneg (by omega)]; omega
theorem tmod_b (n : Int) : -255 < Int.tmod n 255 ∧ Int.tmod n 255 < 255 := by
  rcases Int.le_total 0 n with h | h
  · rw [Int.tmod_eq_emod_of_nonneg h]; omega
  · have e : Int.tmod n 255 = - ((-n) % 255) := by
      conv => lhs; rw [show n = - (-n) from by omega]
      rw [Int.neg_tmod, Int.tmod_eq_emod_of_nonneg (by omega)]
    rw [e]; omega
/-- what a power is -/
def pw (a : Nat) (n : Int) : Nat := if n = 0 then 1 else if a = 0 then 0 else Gy.gpow a (n % 255).toNat
theorem pw_lt {a : Nat} (ha : a < 256) (n : Int) : pw a n < 256 := by
  unfold pw; split
  · omega
  · split
    · omega
    · exact Gy.gpow_lt ha _
theorem fPow {k : Nat} (hk : 18 ≤ k) {a : Nat} (ha : a < 256) (n : Int) : field_Pow.f k a n = some ((pw a n : Nat) : Int) := by
  unfold field_Pow.f pw
  by_cases h0 : n = 0
  · rw [if_pos h0, if_pos h0]; rfl
  · rw [if_neg h0, if_neg h0]
    by_cases h1 : a = 0
    · rw [if_pos (by omega), if_pos h1]; rfl
    · rw [if_neg (by omega), if_neg h1]
      have hb := tmod_b n
      have h := fpower (a := a) (n := (n % 255).toNat) hk ha (by omega)
      rw [show ((n % 255).toNat : Int) = n % 255 from by omega] at h
      rw [Gy.wrap64_id (by omega) (by omega), emod_tmod, h]
      rfl
theorem rp_l0 : ∀ (d : Nat) (a out m i k : Nat), out < 256 → a < 256 → m ≤ 255 → i + d = m → d + 20 < k → 
    geyserref03_Pow.l0 k a out m i = some ((Gy.gmul out (Gy.gpow a d) : Nat) : Int) := by
  intro d
  induction d with
  | zero =>
    intro a out m i k ho ha hm hi hk
    obtain ⟨k, rfl⟩ : ∃ m, k = m + 1 := ⟨k - 1, by omega⟩
    simp only [geyserref03_Pow.l0]
    rw [if_neg (by omega)]
    show some (out : Int) = some ((Gy.gmul out 1 : Nat) : Int)
    rw [Gy.gmul_one_right]
  | succ d ih =>
    intro a out m i k ho ha hm hi hk
    obtain ⟨k, rfl⟩ : ∃ m, k = m + 1 := ⟨k - 1, by omega⟩
    simp only [geyserref03_Pow.l0]
    rw [if_pos (by omega), rmul (by omega) ho ha]
    simp only [Option.bind_some]
    rw [show wrap64 ((i : Int) + 1) = ((i + 1 : Nat) : Int) from by rw [Gy.wrap64_id (by omega) (by omega)]; omega]
    rw [ih a (Gy.gmul out a) m (i + 1) k (Gy.gmul_lt ho ha) ha hm (by omega) (by omega)]
    rw [Gy.gmul_assoc ho ha]
    have e : Gy.gpow a (d + 1) = Gy.gmul a (Gy.gpow a d) := by
      rw [Nat.add_comm, Gy.gpow_add ha]
      have e1 : Gy.gpow a 1 = a := Gy.gmul_one_left ha
      rw [e1]
    rw [e]
theorem rp_j0 {a m k : Nat} (ha : a < 256) (hm : m < 255) (hk : 300 ≤ k) : geyserref03_Pow.j0 k a m = some ((Gy.gpow a m : Nat) : Int) := by
  obtain ⟨k, rfl⟩ : ∃ m, k = m + 1 := ⟨k - 1, by omega⟩
  simp only [geyserref03_Pow.j0]
  have h := rp_l0 m a 1 m 0 k (by omega) ha (by omega) (by omega) (by omega)
  rw [Gy.gmul_one_left (Gy.gpow_lt ha m)] at h
  exact h
theorem rPow {k : Nat} (hk : 300 ≤ k) {a : Nat} (ha : a < 256) (n : Int) : geyserref03_Pow.f k a n = some ((pw a n : Nat) : Int) := by
  unfold geyserref03_Pow.f pw
  by_cases h0 : n = 0
  · rw [if_pos h0, if_pos h0]; rfl
  · rw [if_neg h0, if_neg h0]
    by_cases h1 : a = 0
    · rw [if_pos (by omega), if_pos h1]; rfl
    · rw [if_neg (by omega), if_neg h1]
      have hb := tmod_b n
      have he := emod_tmod n
      by_cases h2 : Int.tmod n 255 < 0
      · rw [if_pos h2, Gy.wrap64_id (by omega) (by omega)]
        rw [Int.tmod_eq_emod_of_nonneg (by omega)] at he
        have e : Int.tmod n 255 + 255 = ((n % 255).toNat : Int) := by omega
        rw [e]
        exact rp_j0 ha (by omega) hk
      · rw [if_neg h2]
        rw [Int.tmod_eq_emod_of_nonneg (by omega)] at he
        have e : Int.tmod n 255 = ((n % 255).toNat : Int) := by omega
        rw [e]
        exact rp_j0 ha (by omega) hk
def mat (R k : Nat) (f : Nat → Nat → Int) : List (List Int) := (List.range R).map fun j => (List.range k).map (f j)
def upd (f : Nat → Nat → Int) (j c : Nat) (v : Int) : Nat → Nat → Int := fun j' c' => if j' = j ∧ c' = c then v else f j' c'
theorem mat_len (R k : Nat) (f : Nat → Nat → Int) : (mat R k f).length = R := by simp [mat]
theorem rd_mat {R k j : Nat} (f : Nat → Nat → Int) (h : j < R) : rd_L1 (mat R k f) (j : Int) = (List.range k).map (f j) := by
  unfold rd_L1 mat; rw [Int.toNat_natCast, List.getD_eq_getElem?_getD]; simp [h]
theorem mat_set {R k j c : Nat} (f : Nat → Nat → Int) (v : Int) (_h : j < R) : (mat R k f).set j (((List.range k).map (f j)).set c v) = mat R k (upd f j c v) := by
  apply List.ext_getElem
  · simp [mat]
  · intro a h1 h2
    simp only [mat, List.getElem_set, List.getElem_map, List.getElem_range]
    by_cases e : j = a
    · subst e
      rw [if_pos rfl]
      apply List.ext_getElem
      · simp
      · intro b h3 h4
        simp only [List.getElem_set, List.getElem_map, List.getElem_range]
        by_cases e2 : c = b
        · subst e2; simp [upd]
        · simp [upd, e2, Ne.symm e2]
    · rw [if_neg e]
      apply List.map_congr_left
      intro b _
      unfold upd
      rw [if_neg (fun h => e h.1.symm)]
theorem mat_congr {R k : Nat} {f g : Nat → Nat → Int} (h : ∀ j, j < R → ∀ c, c < k → f j c = g j c) : mat R k f = mat R k g := by
  unfold mat
  apply List.map_congr_left
  intro j hj
  apply List.map_congr_left
  intro c hc
  exact h j (by simpa using hj) c (by simpa using hc)
/-- the parities' numbers -/
def ent (s j c : Nat) : Int := if j < s then (if c % s = j ∨ (3 * c + 1) % s = j then 1 else 0) else ((pw 2 (((c + 1) * (j - s + 1) : Nat) : Int) : Nat) : Int)
def entTo (s i j c : Nat) : Int := if c < i then ent s j c else 0
def numS (k : Nat) : Nat := (k + 7) / 8 + 1
theorem numS_b {k : Nat} (h1 : 1 ≤ k) (h2 : k ≤ 64) : 2 ≤ numS k ∧ numS k ≤ 9 := by unfold numS; omega
theorem tmod_nat (a b : Nat) : Int.tmod (a : Int) (b : Int) = ((a % b : Nat) : Int) := by rw [Int.tmod_eq_emod_of_nonneg (by omega)]; norm_cast
theorem e_pow (n : Int) : Ev (fun k => field_Pow.f k 2 n) ((pw 2 n : Nat) : Int) := ⟨18, fun k hk => fPow (a := 2) hk (by omega) n⟩
theorem e_rpow (n : Int) : Ev (fun k => geyserref03_Pow.f k 2 n) ((pw 2 n : Nat) : Int) := ⟨300, fun k hk => rPow (a := 2) hk (by omega) n⟩
theorem w_up {i n : Nat} (h : i < n) (hn : n ≤ 1000) : wrap64 ((i : Int) + 1) = ((i + 1 : Nat) : Int) := by rw [Gy.wrap64_id (by omega) (by omega)]; omega
theorem row_len (k : Nat) (f : Nat → Int) : (((List.range k).map f).length : Int) = k := by simp
theorem p_l2 {s k i : Nat} (hs : s ≤ 9) (hk : k ≤ 64) (hi : i < k) (f : Nat → Nat → Int) {r : List (List Int)}
    (hrest : Ev (fun n => precode_Rows.l1 n s (mat (s + 2) k (upd (upd f s i ((pw 2 ((i + 1 : Nat) : Int) : Nat) : Int)) (s + 1) i ((pw 2 (((i + 1) * 2 : Nat) : Int) : Nat) : Int))) k ((i + 1 : Nat) : Int)) r) :
    Ev (fun n => precode_Rows.l2 n s (mat (s + 2) k f) i k i 0) r := by
  have e0 : wrap64 ((s : Int) + 0) = (s : Int) := Gy.wrap64_id (by omega) (by omega)
  have e1 : wrap64 ((s : Int) + 1) = ((s + 1 : Nat) : Int) := by rw [Gy.wrap64_id (by omega) (by omega)]; omega
  have p0 : wrap64 (wrap64 ((i : Int) + 1) * wrap64 (0 + 1)) = ((i + 1 : Nat) : Int) := by
    rw [Gy.wrap64_id (n := (i : Int) + 1) (by omega) (by omega), Gy.wrap64_id (n := 0 + 1) (by omega) (by omega), Gy.wrap64_id (by omega) (by omega)]; omega
  have p1 : wrap64 (wrap64 ((i : Int) + 1) * wrap64 (1 + 1)) = (((i + 1) * 2 : Nat) : Int) := by
    rw [Gy.wrap64_id (n := (i : Int) + 1) (by omega) (by omega), Gy.wrap64_id (n := 1 + 1) (by omega) (by omega), Gy.wrap64_id (by omega) (by omega)]; omega
  refine Ev.step (fun n => ?_) (Ev.bind (e_pow ((i + 1 : Nat) : Int)) (f := fun n t => if 0 ≤ (i : Int) then (if (i : Int) < ((rd_L1 (mat (s + 2) k f) (s : Int)).length : Int) then precode_Rows.l2 n s ((mat (s + 2) k f).set (s : Int).toNat ((rd_L1 (mat (s + 2) k f) (s : Int)).set (i : Int).toNat t)) i k i (wrap64 (0 + 1)) else none) else none) ?_)
  · simp only [precode_Rows.l2]
    rw [if_pos (by omega), e0, if_pos (by omega), if_pos (by rw [mat_len]; omega), p0]
  · rw [rd_mat f (by omega), Int.toNat_natCast, Int.toNat_natCast, mat_set f _ (by omega)]
    refine Ev.congr (fun n => by rw [if_pos (by omega), if_pos (by rw [row_len]; omega)]) ?_
    rw [show wrap64 (0 + 1) = 1 from by decide +kernel]
    refine Ev.step (fun n => ?_) (Ev.bind (e_pow (((i + 1) * 2 : Nat) : Int)) (f := fun n t => if 0 ≤ (i : Int) then (if (i : Int) < ((rd_L1 (mat (s + 2) k (upd f s i ((pw 2 ((i + 1 : Nat) : Int) : Nat) : Int))) ((s + 1 : Nat) : Int)).length : Int) then precode_Rows.l2 n s ((mat (s + 2) k (upd f s i ((pw 2 ((i + 1 : Nat) : Int) : Nat) : Int))).set ((s + 1 : Nat) : Int).toNat ((rd_L1 (mat (s + 2) k (upd f s i ((pw 2 ((i + 1 : Nat) : Int) : Nat) : Int))) ((s + 1 : Nat) : Int)).set (i : Int).toNat t)) i k i (wrap64 (1 + 1)) else none) else none) ?_)
    · simp only [precode_Rows.l2]
      rw [if_pos (by omega), e1, if_pos (by omega), if_pos (by rw [mat_len]; omega), p1]
    · rw [rd_mat _ (by omega), Int.toNat_natCast, Int.toNat_natCast, mat_set _ _ (by omega)]
      refine Ev.congr (fun n => by rw [if_pos (by omega), if_pos (by rw [row_len]; omega)]) ?_
      rw [show wrap64 (1 + 1) = 2 from by decide +kernel]
      refine Ev.step (fun n => ?_) hrest
      simp only [precode_Rows.l2]
      rw [if_neg (by omega), w_up hi (by omega)]
theorem ent_step {s i j c : Nat} (hs : 2 ≤ s) (hj : j < s + 2) :
    upd (upd (upd (upd (entTo s i) (i % s) i 1) ((3 * i + 1) % s) i 1) s i ((pw 2 ((i + 1 : Nat) : Int) : Nat) : Int)) (s + 1) i ((pw 2 (((i + 1) * 2 : Nat) : Int) : Nat) : Int) j c = entTo s (i + 1) j c := by
  have m1 := Nat.mod_lt i (show 0 < s by omega)
  have m2 := Nat.mod_lt (3 * i + 1) (show 0 < s by omega)
  unfold upd entTo
  by_cases hc : c = i
  · subst hc
    rw [if_pos (show c < c + 1 by omega)]
    unfold ent
    by_cases h1 : j = s + 1
    · rw [if_pos ⟨h1, rfl⟩, if_neg (by omega), h1, show s + 1 - s + 1 = 2 from by omega]
    · rw [if_neg (fun h => h1 h.1)]
      by_cases h2 : j = s
      · rw [if_pos ⟨h2, rfl⟩, if_neg (by omega), h2, show s - s + 1 = 1 from by omega, Nat.mul_one]
      · rw [if_neg (fun h => h2 h.1), if_pos (show j < s by omega)]
        by_cases h3 : (3 * c + 1) % s = j
        · rw [if_pos ⟨h3.symm, rfl⟩, if_pos (.inr h3)]
        · rw [if_neg (fun h => h3 h.1.symm)]
          by_cases h4 : c % s = j
          · rw [if_pos ⟨h4.symm, rfl⟩, if_pos (.inl h4)]
          · rw [if_neg (fun h => h4 h.1.symm), if_neg (by omega), if_neg (by rintro (h | h) <;> contradiction)]
  · rw [if_neg (fun h => hc h.2), if_neg (fun h => hc h.2), if_neg (fun h => hc h.2), if_neg (fun h => hc h.2)]
    by_cases h : c < i
    · rw [if_pos h, if_pos (by omega)]
    · rw [if_neg h, if_neg (by omega)]
theorem p_l1 {s k : Nat} (hs : 2 ≤ s) (hs9 : s ≤ 9) (hk : k ≤ 64) : ∀ (d i : Nat), i + d = k → Ev (fun n => precode_Rows.l1 n s (mat (s + 2) k (entTo s i)) k i) (mat (s + 2) k (ent s)) := by
  intro d
  induction d with
  | zero =>
    intro i hi
    obtain rfl : i = k := by omega
    have e : mat (s + 2) i (entTo s i) = mat (s + 2) i (ent s) := mat_congr (fun j _ c hc => by unfold entTo; rw [if_pos hc])
    rw [e]
    refine Ev.step (fun n => ?_) (Ev.now _)
    simp only [precode_Rows.l1]
    rw [if_neg (by omega)]
  | succ d ih =>
    intro i hi
    have hi' : i < k := by omega
    have h1 := ih (i + 1) (by omega)
    rw [← mat_congr (fun j hj c _ => ent_step (i := i) (c := c) hs hj)] at h1
    have h2 := p_l2 hs9 hk hi' _ h1
    have m1 := Nat.mod_lt i (show 0 < s by omega)
    have m2 := Nat.mod_lt (3 * i + 1) (show 0 < s by omega)
    have e3 : wrap64 (wrap64 (3 * (i : Int)) + 1) = ((3 * i + 1 : Nat) : Int) := by
      rw [Gy.wrap64_id (n := 3 * (i : Int)) (by omega) (by omega), Gy.wrap64_id (by omega) (by omega)]; omega
    refine Ev.step (fun n => ?_) h2
    simp only [precode_Rows.l1]
    rw [if_pos (by omega), if_neg (by omega), e3, tmod_nat, tmod_nat, if_pos (by omega), if_pos (by rw [mat_len]; omega), if_pos (by omega), rd_mat _ (by omega), if_pos (by rw [row_len]; omega)]
    simp only [Option.bind_some, Int.toNat_natCast]
    rw [mat_set _ _ (by omega), if_pos (by omega), if_pos (by rw [mat_len]; omega), rd_mat _ (by omega), if_pos (by rw [row_len]; omega), mat_set _ _ (by omega)]
theorem p_l0 {s k : Nat} (hs : 2 ≤ s) (hs9 : s ≤ 9) (hk : k ≤ 64) : ∀ (d i : Nat), i + d = s + 2 →
    Ev (fun n => precode_Rows.l0 n k s (List.replicate i (List.replicate k 0) ++ List.replicate d []) ((s + 2 : Nat) : Int) i) (mat (s + 2) k (ent s)) := by
  intro d
  induction d with
  | zero =>
    intro i hi
    have e : List.replicate i (List.replicate k (0 : Int)) ++ List.replicate 0 [] = mat (s + 2) k (entTo s 0) := by
      rw [List.replicate_zero, List.append_nil, show i = s + 2 from by omega]
      apply List.ext_getElem
      · simp [mat]
      · intro a h1 h2
        simp only [mat, List.getElem_replicate, List.getElem_map]
        apply List.ext_getElem
        · simp
        · intro b h3 h4
          simp [entTo]
    rw [e]
    refine Ev.step (fun n => ?_) (p_l1 hs hs9 hk k 0 (by omega))
    simp only [precode_Rows.l0]
    rw [if_neg (by omega)]
    rfl
  | succ d ih =>
    intro i hi
    refine Ev.step (fun n => ?_) (ih (i + 1) (by omega))
    simp only [precode_Rows.l0]
    rw [if_pos (by omega), if_pos (by omega), if_pos (by omega), if_pos (by omega), if_pos (by simp; omega), w_up (n := s + 2) (by omega) (by omega), Int.toNat_natCast, Int.toNat_natCast]
    have e : (List.replicate i (List.replicate k (0 : Int)) ++ List.replicate (d + 1) []).set i (List.replicate k 0) = List.replicate (i + 1) (List.replicate k 0) ++ List.replicate d [] := by
      rw [List.set_append_right _ _ (by simp), List.length_replicate, Nat.sub_self, List.replicate_succ, List.set_cons_zero, List.replicate_succ', List.append_assoc]; rfl
    rw [e]
theorem p_rows {k : Nat} (h1 : 1 ≤ k) (h2 : k ≤ 64) : Ev (fun n => precode_Rows.f n k) (mat (numS k + 2) k (ent (numS k))) := by
  have hb := numS_b h1 h2
  have e8 : wrap64 ((k : Int) + 8) = ((k + 8 : Nat) : Int) := by rw [Gy.wrap64_id (by omega) (by omega)]; omega
  have e7 : wrap64 (((k + 8 : Nat) : Int) - 1) = ((k + 7 : Nat) : Int) := by rw [Gy.wrap64_id (by omega) (by omega)]; omega
  have ed : Int.tdiv ((k + 7 : Nat) : Int) 8 = (((k + 7) / 8 : Nat) : Int) := by rw [Int.tdiv_eq_ediv_of_nonneg (by omega)]; omega
  have es : precode_sparse.f k = some ((numS k : Nat) : Int) := by
    unfold precode_sparse.f
    rw [e8, e7, ed, Gy.wrap64_id (n := (((k + 7) / 8 : Nat) : Int)) (by omega) (by omega), Gy.wrap64_id (by omega) (by omega)]
    unfold numS; congr 1
  have ew : precode_wrong.f k = some false := by
    unfold precode_wrong.f; rw [if_neg (by omega)]; simp; omega
  have e2 : wrap64 ((numS k : Int) + 2) = ((numS k + 2 : Nat) : Int) := by rw [Gy.wrap64_id (by omega) (by omega)]; omega
  have h0 := p_l0 (s := numS k) (k := k) hb.1 hb.2 h2 (numS k + 2) 0 (by omega)
  refine Ev.congr (fun n => ?_) h0
  unfold precode_Rows.f
  rw [ew, Option.bind_some, if_neg (by decide), es, Option.bind_some, e2, if_pos (by omega), if_pos (by rw [Int.toNat_natCast]; omega), Option.bind_some, Int.toNat_natCast, List.length_replicate]
  rfl
theorem p_none {k : Int} (h : k < 1 ∨ k > 64) : Ev (fun n => precode_Rows.f n k) [] := by
  refine Ev.congr (f := fun _ => some []) (fun n => ?_) (Ev.now _)
  unfold precode_Rows.f precode_wrong.f
  rcases h with h | h
  · rw [if_pos h]; rfl
  · rw [if_neg (by omega)]
    simp only [Option.bind_some, h, decide_true, if_true]
theorem p_count {k : Nat} (h1 : 1 ≤ k) (h2 : k ≤ 64) : precode_Count.f k = some ((numS k + 2 : Nat) : Int) := by
  have hb := numS_b h1 h2
  have e8 : wrap64 ((k : Int) + 8) = ((k + 8 : Nat) : Int) := by rw [Gy.wrap64_id (by omega) (by omega)]; omega
  have e7 : wrap64 (((k + 8 : Nat) : Int) - 1) = ((k + 7 : Nat) : Int) := by rw [Gy.wrap64_id (by omega) (by omega)]; omega
  have ed : Int.tdiv ((k + 7 : Nat) : Int) 8 = (((k + 7) / 8 : Nat) : Int) := by rw [Int.tdiv_eq_ediv_of_nonneg (by omega)]; omega
  unfold precode_Count.f precode_wrong.f precode_sparse.f
  rw [if_neg (by omega), show decide ((k : Int) > 64) = false from by simp; omega, Option.bind_some, if_neg (by decide), Option.bind_some, e8, e7, ed, Gy.wrap64_id (n := (((k + 7) / 8 : Nat) : Int)) (by omega) (by omega),
    Gy.wrap64_id (n := (((k + 7) / 8 : Nat) : Int) + 1) (by omega) (by omega), Gy.wrap64_id (by omega) (by omega)]
  unfold numS; congr 1
theorem p_count0 {k : Int} (h : k < 1 ∨ k > 64) : precode_Count.f k = some 0 := by
  unfold precode_Count.f precode_wrong.f
  rcases h with h | h
  · rw [if_pos h]; rfl
  · rw [if_neg (by omega)]
    simp only [Option.bind_some, h, decide_true, if_true]
def vec (k : Nat) (f : Nat → Int) : List Int := (List.range k).map f
theorem vec_len (k : Nat) (f : Nat → Int) : (vec k f).length = k := by simp [vec]
theorem vec_set (k c : Nat) (f : Nat → Int) (v : Int) : (vec k f).set c v = vec k (fun c' => if c' = c then v else f c') := by
  apply List.ext_getElem
  · simp [vec]
  · intro b h3 h4
    simp only [vec, List.getElem_set, List.getElem_map, List.getElem_range]
    by_cases e2 : c = b
    · subst e2; simp
    · simp [e2, Ne.symm e2]
theorem vec_congr {k : Nat} {f g : Nat → Int} (h : ∀ c, c < k → f c = g c) : vec k f = vec k g := by
  unfold vec; apply List.map_congr_left; intro c hc; exact h c (by simpa using hc)
theorem r_l1 {s k j : Nat} (hs : 2 ≤ s) (hs9 : s ≤ 9) (hk : k ≤ 64) (hj : j < s + 2) (acc : List (List Int)) (hacc : acc.length ≤ 20) {r : List (List Int)} {N J : Int}
    (hrest : Ev (fun n => geyserref03_Parities.l0 n k s (acc ++ [vec k (ent s j)]) N (wrap64 (J + 1))) r) :
    ∀ (d i : Nat), i + d = k → Ev (fun n => geyserref03_Parities.l1 n k s acc j (vec k (entTo s i j)) N J k i) r := by
  intro d
  induction d with
  | zero =>
    intro i hi
    obtain rfl : i = k := by omega
    have e : vec i (entTo s i j) = vec i (ent s j) := vec_congr (fun c hc => by unfold entTo; rw [if_pos hc])
    rw [e]
    refine Ev.step (fun n => ?_) hrest
    simp only [geyserref03_Parities.l1]
    rw [if_neg (by omega), if_pos (by omega)]
  | succ d ih =>
    intro i hi
    have hi' : i < k := by omega
    have h1 := ih (i + 1) (by omega)
    have eu := w_up hi' (by omega)
    have e3 : wrap64 (wrap64 (3 * (i : Int)) + 1) = ((3 * i + 1 : Nat) : Int) := by
      rw [Gy.wrap64_id (n := 3 * (i : Int)) (by omega) (by omega), Gy.wrap64_id (by omega) (by omega)]; omega
    -- a place that is written
    have put : ∀ v : Int, v = ent s j i → Ev (fun n => geyserref03_Parities.l1 n k s acc j ((vec k (entTo s i j)).set i v) N J k ((i + 1 : Nat) : Int)) r := by
      intro v hv
      have e : (vec k (entTo s i j)).set i v = vec k (entTo s (i + 1) j) := by
        rw [vec_set]
        apply vec_congr
        intro c _
        unfold entTo
        by_cases hc : c = i
        · subst hc; rw [if_pos rfl, if_pos (by omega), hv]
        · rw [if_neg hc]
          by_cases h : c < i
          · rw [if_pos h, if_pos (by omega)]
          · rw [if_neg h, if_neg (by omega)]
      rw [e]; exact h1
    have j3t : j < s → (i % s = j ∨ (3 * i + 1) % s = j) → Ev (fun n => geyserref03_Parities.j3 n k s acc j (vec k (entTo s i j)) i N J k i true) r := by
      intro h2 h3
      refine Ev.step (fun n => ?_) (put 1 (by unfold ent; rw [if_pos h2, if_pos h3]))
      simp only [geyserref03_Parities.j3, if_true]
      rw [if_pos (by omega), if_pos (by rw [vec_len]; omega), eu, Int.toNat_natCast]
    have j3f : ¬ (j < s ∧ (i % s = j ∨ (3 * i + 1) % s = j)) → Ev (fun n => geyserref03_Parities.j3 n k s acc j (vec k (entTo s i j)) i N J k i false) r := by
      intro h2
      have e1 : wrap64 ((s : Int) + 1) = ((s + 1 : Nat) : Int) := by rw [Gy.wrap64_id (by omega) (by omega)]; omega
      have ez : wrap64 (2 * ((i + 1 : Nat) : Int)) = ((2 * (i + 1) : Nat) : Int) := by rw [Gy.wrap64_id (by omega) (by omega)]; omega
      by_cases h3 : j = s
      · refine Ev.step (fun n => ?_) (Ev.bind (e_rpow ((i + 1 : Nat) : Int)) (f := fun n t => if 0 ≤ (i : Int) then (if (i : Int) < ((vec k (entTo s i j)).length : Int) then geyserref03_Parities.l1 n k s acc j ((vec k (entTo s i j)).set (i : Int).toNat t) N J k (wrap64 ((i : Int) + 1)) else none) else none) ?_)
        · simp only [geyserref03_Parities.j3]
          rw [if_neg (by decide), if_pos (by omega), eu]
        · refine Ev.congr (fun n => by rw [if_pos (by omega), if_pos (by rw [vec_len]; omega), eu, Int.toNat_natCast]) (put _ ?_)
          unfold ent; rw [if_neg (by omega), h3, show s - s + 1 = 1 from by omega, Nat.mul_one]
      · by_cases h4 : j = s + 1
        · refine Ev.step (fun n => ?_) (Ev.bind (e_rpow ((2 * (i + 1) : Nat) : Int)) (f := fun n t => if 0 ≤ (i : Int) then (if (i : Int) < ((vec k (entTo s i j)).length : Int) then geyserref03_Parities.l1 n k s acc j ((vec k (entTo s i j)).set (i : Int).toNat t) N J k (wrap64 ((i : Int) + 1)) else none) else none) ?_)
          · simp only [geyserref03_Parities.j3]
            rw [if_neg (by decide), if_neg (by omega), if_pos (by rw [e1]; omega), eu, ez]
          · refine Ev.congr (fun n => by rw [if_pos (by omega), if_pos (by rw [vec_len]; omega), eu, Int.toNat_natCast]) (put _ ?_)
            unfold ent; rw [if_neg (by omega), h4, show s + 1 - s + 1 = 2 from by omega, Nat.mul_comm]
        · have e0 : ent s j i = 0 := by unfold ent; rw [if_pos (by omega), if_neg (fun h => h2 ⟨by omega, h⟩)]
          have e : vec k (entTo s i j) = vec k (entTo s (i + 1) j) := by
            apply vec_congr
            intro c _
            unfold entTo
            by_cases hc : c = i
            · subst hc; rw [if_neg (by omega), if_pos (by omega), e0]
            · by_cases h : c < i
              · rw [if_pos h, if_pos (by omega)]
              · rw [if_neg h, if_neg (by omega)]
          rw [e]
          refine Ev.step (fun n => ?_) h1
          simp only [geyserref03_Parities.j3]
          rw [if_neg (by decide), if_neg (by omega), if_neg (by rw [e1]; omega), eu]
    by_cases h2 : j < s
    · by_cases h3 : i % s = j
      · refine Ev.step (fun n => ?_) (j3t h2 (.inl h3))
        simp only [geyserref03_Parities.l1]
        rw [if_pos (by omega), if_pos (by omega), if_neg (by omega), tmod_nat, if_pos (by omega)]
      · by_cases h4 : (3 * i + 1) % s = j
        · refine Ev.step (fun n => ?_) (j3t h2 (.inr h4))
          simp only [geyserref03_Parities.l1]
          rw [if_pos (by omega), if_pos (by omega), if_neg (by omega), tmod_nat, if_neg (by omega), e3, tmod_nat, show (((3 * i + 1) % s : Nat) : Int) == (j : Int) from by rw [h4]; simp]
        · refine Ev.step (fun n => ?_) (j3f (by rintro ⟨_, h | h⟩ <;> contradiction))
          simp only [geyserref03_Parities.l1]
          rw [if_pos (by omega), if_pos (by omega), if_neg (by omega), tmod_nat, if_neg (by omega), e3, tmod_nat, show ((((3 * i + 1) % s : Nat) : Int) == (j : Int)) = false from by rw [beq_eq_false_iff_ne]; omega]
    · refine Ev.step (fun n => ?_) (j3f (fun h => h2 h.1))
      simp only [geyserref03_Parities.l1]
      rw [if_pos (by omega), if_neg (by omega)]
theorem r_l0 {s k : Nat} (hs : 2 ≤ s) (hs9 : s ≤ 9) (hk : k ≤ 64) : ∀ (d j : Nat), j + d = s + 2 →
    Ev (fun n => geyserref03_Parities.l0 n k s ((List.range j).map fun a => vec k (ent s a)) ((s + 2 : Nat) : Int) j) (mat (s + 2) k (ent s)) := by
  intro d
  induction d with
  | zero =>
    intro j hj
    obtain rfl : j = s + 2 := by omega
    refine Ev.step (fun n => ?_) (Ev.now _)
    simp only [geyserref03_Parities.l0]
    rw [if_neg (by omega)]
    rfl
  | succ d ih =>
    intro j hj
    have h1 := ih (j + 1) (by omega)
    rw [List.range_succ, List.map_append, ← w_up (i := j) (n := s + 2) (by omega) (by omega)] at h1
    have h2 := r_l1 (j := j) hs hs9 hk (by omega) ((List.range j).map fun a => vec k (ent s a)) (by simp; omega) h1 k 0 (by omega)
    have e : vec k (entTo s 0 j) = List.replicate k 0 := by
      unfold vec; rw [List.eq_replicate_iff]; exact ⟨by simp, fun b hb => by obtain ⟨c, _, rfl⟩ := List.mem_map.1 hb; simp [entTo]⟩
    rw [e] at h2
    refine Ev.step (fun n => ?_) h2
    simp only [geyserref03_Parities.l0]
    rw [if_pos (by omega), if_pos (by omega), if_pos (by rw [Int.toNat_natCast]; omega), Int.toNat_natCast]
    rfl
theorem r_par {k : Nat} (h1 : 1 ≤ k) (h2 : k ≤ 64) : Ev (fun n => geyserref03_Parities.f n k) (mat (numS k + 2) k (ent (numS k))) := by
  have hb := numS_b h1 h2
  have h0 := r_l0 (s := numS k) (k := k) hb.1 hb.2 h2 (numS k + 2) 0 (by omega)
  have e2 : wrap64 ((numS k : Int) + 2) = ((numS k + 2 : Nat) : Int) := by rw [Gy.wrap64_id (by omega) (by omega)]; omega
  have hj : Ev (fun n => geyserref03_Parities.j0 n k (numS k : Nat)) (mat (numS k + 2) k (ent (numS k))) := by
    refine Ev.step (fun n => ?_) h0
    simp only [geyserref03_Parities.j0]
    rw [e2]; rfl
  have et : Int.tmod (k : Int) 8 = ((k % 8 : Nat) : Int) := by rw [Int.tmod_eq_emod_of_nonneg (by omega)]; omega
  have ed : Int.tdiv (k : Int) 8 = ((k / 8 : Nat) : Int) := by rw [Int.tdiv_eq_ediv_of_nonneg (by omega)]; omega
  refine Ev.congr (fun n => ?_) hj
  unfold geyserref03_Parities.f
  rw [et, ed]
  by_cases h : k % 8 > 0
  · rw [if_pos (by omega), Gy.wrap64_id (n := ((k / 8 : Nat) : Int)) (by omega) (by omega), Gy.wrap64_id (n := ((k / 8 : Nat) : Int) + 1) (by omega) (by omega), Gy.wrap64_id (by omega) (by omega)]
    congr 1; unfold numS; omega
  · rw [if_neg (by omega), Gy.wrap64_id (n := ((k / 8 : Nat) : Int)) (by omega) (by omega), Gy.wrap64_id (by omega) (by omega)]
    congr 1; unfold numS; omega
theorem law_l0 {M : List (List Int)} (hM : M.length ≤ 1000) : ∀ (d i : Nat), i + d = M.length → Ev (fun n => geyserlaw07_PrecodeRows.l0 n M M (M.length : Int) i) true := by
  intro d
  induction d with
  | zero =>
    intro i hi
    refine Ev.step (fun n => ?_) (Ev.now _)
    simp only [geyserlaw07_PrecodeRows.l0]
    rw [if_neg (by omega)]
  | succ d ih =>
    intro i hi
    refine Ev.step (fun n => ?_) (ih (i + 1) (by omega))
    simp only [geyserlaw07_PrecodeRows.l0]
    rw [if_pos (by omega), if_pos (by omega), if_pos (by omega), if_pos (by omega), if_pos trivial, w_up (n := M.length) (by omega) hM]
theorem PrecodeRows : geyserlaw07_PrecodeRows.Pure := by
  intro a0 h0
  refine Ev.rounds ?_
  have hw : geyserlaw07_awake.f = some true := by
    unfold geyserlaw07_awake.f
    have := p_count (k := 8) (by omega) (by omega)
    rw [show ((8 : Nat) : Int) = 8 from rfl] at this
    rw [this, Option.bind_some]
    decide
  have hx : ∀ r, Ev (fun n => (precode_Rows.f n a0).bind fun t145 => (if a0 < 1 then (geyserlaw07_PrecodeRows.j0 n a0 t145 true) else (geyserlaw07_PrecodeRows.j0 n a0 t145 (decide (a0 > 64))))) r → Ev (fun n => geyserlaw07_PrecodeRows.f n a0) r := by
    intro r hr
    refine Ev.congr (fun n => ?_) hr
    unfold geyserlaw07_PrecodeRows.f
    rw [hw, Option.bind_some, if_pos rfl]
  refine hx _ ?_
  by_cases hk : a0 < 1 ∨ a0 > 64
  · refine Ev.bind (p_none hk) ?_
    have h2 : Ev (fun n => geyserlaw07_PrecodeRows.j0 n a0 [] true) true := by
      refine Ev.step (f := fun _ => some true) (fun n => ?_) (Ev.now _)
      simp only [geyserlaw07_PrecodeRows.j0]
      rw [p_count0 hk]
      rfl
    refine Ev.congr (fun n => ?_) h2
    by_cases h : a0 < 1
    · rw [if_pos h]
    · rw [if_neg h, show decide (a0 > 64) = true from by simp; omega]
  · obtain ⟨k, rfl⟩ : ∃ k : Nat, a0 = k := ⟨a0.toNat, by omega⟩
    have h1 : 1 ≤ k := by omega
    have h2 : k ≤ 64 := by omega
    have hb := numS_b h1 h2
    refine Ev.bind (p_rows h1 h2) ?_
    refine Ev.congr (f := fun n => geyserlaw07_PrecodeRows.j0 n k (mat (numS k + 2) k (ent (numS k))) false) (fun n => by rw [if_neg (by omega), show decide ((k : Int) > 64) = false from by simp; omega]) ?_
    refine Ev.step (f := fun n => (geyserref03_Parities.f n k).bind fun t149 => (if ((mat (numS k + 2) k (ent (numS k))).length : Int) = (t149.length : Int) then ((precode_Count.f k).bind fun t152 => (geyserlaw07_PrecodeRows.j1 n (mat (numS k + 2) k (ent (numS k))) t149 (t152 != (t149.length : Int)))) else (geyserlaw07_PrecodeRows.j1 n (mat (numS k + 2) k (ent (numS k))) t149 true))) (fun n => ?_) ?_
    · simp only [geyserlaw07_PrecodeRows.j0]
      rw [if_neg (by decide)]
    · refine Ev.bind (r_par h1 h2) ?_
      have hl := law_l0 (M := mat (numS k + 2) k (ent (numS k))) (by rw [mat_len]; omega) (numS k + 2) 0 (by rw [mat_len]; omega)
      refine Ev.congr (f := fun n => geyserlaw07_PrecodeRows.j1 n (mat (numS k + 2) k (ent (numS k))) (mat (numS k + 2) k (ent (numS k))) false) (fun n => ?_) ?_
      · rw [if_pos rfl, p_count h1 h2, Option.bind_some, mat_len]
        simp
      · refine Ev.step (fun n => ?_) hl
        simp only [geyserlaw07_PrecodeRows.j1]
        rw [if_neg (by decide)]
        rfl

end Go.Proofs.Ytkheloahiepoiaa.Pure
