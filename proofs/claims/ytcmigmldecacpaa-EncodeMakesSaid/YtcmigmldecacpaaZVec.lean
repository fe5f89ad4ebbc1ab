/- Vectors: what the printed functions say, as plain functions. -/
import Derived.Test.YtcmigmldecacpaaZQReplayBoardsx
import Derived.Test.YtcmigmldecacpaaZGf
import Derived.Test.YtcmigmldecacpaaZBt
import Derived.Test.YtcmigmldecacpaaZMem
namespace Go.Proofs.Ytcmigmldecacpaa.Vec
open Go Go.RowKit Go.Proofs.Ytcmigmldecacpaa.QReplayBoards Go.Proofs.YtcmigmldecacpaaW.PrintWords Go.Proofs.YtcmigmldecacpaaW.PrintLast

theorem gmulAux_zero : ∀ (f s x : Nat), Gy.gmulAux f s x 0 = s := by
  intro f
  induction f with
  | zero => intro s x; rfl
  | succ f ih => intro s x; unfold Gy.gmulAux; rw [if_neg (by decide)]; exact ih _ _
theorem w2 {x : Nat} (h : x < 256) : wrap64 ((x : Int) * 2) = ((x * 2 : Nat) : Int) := by unfold wrap64; omega
theorem half (y : Nat) : (y : Int) / 2 = ((y / 2 : Nat) : Int) := by omega
theorem fm_l0 : ∀ (f s x y k : Nat), s < 256 → x < 256 → y < 2 ^ f → y < 256 → f < k → field_Mul.l0 k s x y = some ((Gy.gmulAux f s x y : Nat) : Int) := by
  intro f
  induction f with
  | zero =>
    intro s x y k hs hx hy _ hk
    obtain ⟨k, rfl⟩ : ∃ m, k = m + 1 := ⟨k - 1, by omega⟩
    obtain rfl : y = 0 := by simp at hy; omega
    simp only [field_Mul.l0]
    rw [if_neg (by omega)]
    show some ((s : Int) % 256) = some (s : Int)
    congr 1; omega
  | succ f ih =>
    intro s x y k hs hx hy hy2 hk
    obtain ⟨k, rfl⟩ : ∃ m, k = m + 1 := ⟨k - 1, by omega⟩
    by_cases h0 : y = 0
    · subst h0
      rw [gmulAux_zero]
      simp only [field_Mul.l0]
      rw [if_neg (by omega)]
      congr 1; omega
    · simp only [field_Mul.l0]
      rw [if_pos (by omega), Gy.i64_and1 y (by omega), w2 hx, Gy.i64_xor s x (by omega) (by omega), half]
      have e285 : Go.bits .xor .i64 ((x * 2 : Nat) : Int) 285 = ((((x * 2) ^^^ 285) : Nat) : Int) := Gy.i64_xor (x * 2) 285 (by omega) (by omega)
      rw [e285]
      have hxt := Gy.xt_lt hx
      have hsx := Gy.xor_lt8 hs hx
      have hy' : y / 2 < 2 ^ f := by rw [Nat.pow_succ] at hy; omega
      have hm : Gy.gmulAux (f + 1) s x y = Gy.gmulAux f (if y % 2 = 1 then s ^^^ x else s) (Gy.xt x) (y / 2) := rfl
      by_cases h1 : y % 2 = 1
      · rw [if_pos (by omega)]
        rw [if_pos h1] at hm
        by_cases h2 : x * 2 > 255
        · have ex : Gy.xt x = (x * 2) ^^^ 285 := by unfold Gy.xt; rw [if_pos h2]
          rw [if_pos (by omega), hm, ← ex]
          exact ih _ _ _ _ hsx hxt hy' (by omega) (by omega)
        · have ex : Gy.xt x = x * 2 := by unfold Gy.xt; rw [if_neg h2]
          rw [if_neg (by omega), hm, ← ex]
          exact ih _ _ _ _ hsx hxt hy' (by omega) (by omega)
      · rw [if_neg (by omega)]
        rw [if_neg h1] at hm
        by_cases h2 : x * 2 > 255
        · have ex : Gy.xt x = (x * 2) ^^^ 285 := by unfold Gy.xt; rw [if_pos h2]
          rw [if_pos (by omega), hm, ← ex]
          exact ih _ _ _ _ hs hxt hy' (by omega) (by omega)
        · have ex : Gy.xt x = x * 2 := by unfold Gy.xt; rw [if_neg h2]
          rw [if_neg (by omega), hm, ← ex]
          exact ih _ _ _ _ hs hxt hy' (by omega) (by omega)
theorem fmul {k : Nat} (hk : 9 ≤ k) {a b : Nat} (ha : a < 256) (hb : b < 256) : field_Mul.f k a b = some ((Gy.gmul a b : Nat) : Int) := by
  unfold field_Mul.f
  rw [Gy.wrap64_id (by omega) (by omega), Gy.wrap64_id (by omega) (by omega)]
  exact fm_l0 8 0 a b k (by omega) ha hb hb (by omega)
theorem shr_u8 (b : Nat) (i : Nat) (hi : i < 8) : shr .u8 (b : Int) (IntKind.u64.wrap (i : Int)) = ((b / 2 ^ i : Nat) : Int) := by
  unfold shr
  rw [Gy.u64_wrap_id (by omega) (by omega)]
  have e : min ((i : Int)).toNat (IntKind.bits .u8) = i := by show min i 8 = i; omega
  rw [e]
  norm_cast
theorem pow_lt8 {i : Nat} (h : i < 8) : 2 ^ i ≤ 128 := by
  have : 2 ^ i ≤ 2 ^ 7 := Nat.pow_le_pow_right (by omega) (by omega)
  exact this
theorem shl_i64 {a : Nat} (ha : a < 512) (i : Nat) (hi : i < 8) : shl .i64 (a : Int) (IntKind.u64.wrap (i : Int)) = ((a * 2 ^ i : Nat) : Int) := by
  unfold shl
  rw [Gy.u64_wrap_id (by omega) (by omega)]
  have e : min ((i : Int)).toNat (IntKind.bits .i64) = i := by show min i 64 = i; omega
  rw [e]
  have h1 := pow_lt8 hi
  have h2 : a * 2 ^ i ≤ 511 * 128 := Nat.mul_le_mul (by omega) h1
  have e2 : (a : Int) * 2 ^ i = ((a * 2 ^ i : Nat) : Int) := by norm_cast
  rw [e2, Gy.wrapI64]
  omega
theorem shr_i64 (v : Nat) (i : Nat) (hi : i < 64) : shr .i64 (v : Int) (IntKind.u64.wrap (i : Int)) = ((v / 2 ^ i : Nat) : Int) := by
  unfold shr
  rw [Gy.u64_wrap_id (by omega) (by omega)]
  have e : min ((i : Int)).toNat (IntKind.bits .i64) = i := by show min i 64 = i; omega
  rw [e]
  norm_cast
theorem rm_l1 : ∀ (f v k : Nat), f ≤ 7 → v < 2 ^ 20 → f < k → geyserref03_Mul.l1 k v ((f : Int) + 7) = some ((Gy.rmulR f v % 256 : Nat) : Int) := by
  intro f
  induction f with
  | zero =>
    intro v k _ hv hk
    obtain ⟨k, rfl⟩ : ∃ m, k = m + 1 := ⟨k - 1, by omega⟩
    simp only [geyserref03_Mul.l1]
    rw [if_neg (by omega)]
    rfl
  | succ f ih =>
    intro v k hf hv hk
    obtain ⟨k, rfl⟩ : ∃ m, k = m + 1 := ⟨k - 1, by omega⟩
    have e8 : ((f + 1 : Nat) : Int) + 7 = ((f + 8 : Nat) : Int) := by omega
    rw [e8]
    simp only [geyserref03_Mul.l1]
    rw [if_pos (by omega), if_pos (by rw [Gy.u64_wrap_id (by omega) (by omega)]; omega)]
    rw [shr_i64 v (f + 8) (by omega), Gy.i64_and1 _ (Nat.lt_of_le_of_lt (Nat.div_le_self _ _) (by omega))]
    have em1 : wrap64 (((f + 8 : Nat) : Int) - 1) = (f : Int) + 7 := by rw [Gy.wrap64_id (by omega) (by omega)]; omega
    have em8 : wrap64 (((f + 8 : Nat) : Int) - 8) = (f : Int) := by rw [Gy.wrap64_id (by omega) (by omega)]; omega
    rw [em1, em8]
    have hm : Gy.rmulR (f + 1) v = Gy.rmulR f (if (v / 2 ^ (f + 8)) % 2 = 1 then v ^^^ (285 * 2 ^ f) else v) := rfl
    have e285 : shl .i64 (285 : Int) (IntKind.u64.wrap (f : Int)) = ((285 * 2 ^ f : Nat) : Int) := shl_i64 (a := 285) (by omega) f (by omega)
    have hp := pow_lt8 (i := f) (by omega)
    rw [e285, Gy.i64_xor v (285 * 2 ^ f) (by omega) (by omega)]
    by_cases h1 : (v / 2 ^ (f + 8)) % 2 = 1
    · rw [if_pos (by omega), if_pos (by rw [Gy.u64_wrap_id (by omega) (by omega)]; omega), hm, if_pos h1]
      exact ih _ _ (by omega) (Gy.xor_lt 20 hv (by omega)) (by omega)
    · rw [if_neg (by omega), hm, if_neg h1]
      exact ih _ _ (by omega) hv (by omega)
theorem rm_l0 : ∀ (f i : Nat) (a b v k : Nat), f + i = 8 → a < 256 → b < 256 → v < 2 ^ 20 → f + 9 < k →
    geyserref03_Mul.l0 k a b v i = some ((Gy.rmulR 7 (Gy.rmulV f a b v i) % 256 : Nat) : Int) := by
  intro f
  induction f with
  | zero =>
    intro i a b v k hi ha hb hv hk
    obtain ⟨k, rfl⟩ : ∃ m, k = m + 1 := ⟨k - 1, by omega⟩
    simp only [geyserref03_Mul.l0]
    rw [if_neg (by omega)]
    exact rm_l1 7 v k (by omega) hv (by omega)
  | succ f ih =>
    intro i a b v k hi ha hb hv hk
    obtain ⟨k, rfl⟩ : ∃ m, k = m + 1 := ⟨k - 1, by omega⟩
    simp only [geyserref03_Mul.l0]
    rw [if_pos (by omega), if_pos (by rw [Gy.u64_wrap_id (by omega) (by omega)]; omega)]
    rw [shr_u8 b i (by omega), Gy.u8_and1 _ (Nat.lt_of_le_of_lt (Nat.div_le_self _ _) hb)]
    have e1 : wrap64 ((i : Int) + 1) = ((i + 1 : Nat) : Int) := by rw [Gy.wrap64_id (by omega) (by omega)]; omega
    rw [e1, Gy.wrap64_id (by omega) (by omega), shl_i64 (by omega) i (by omega)]
    have hp := pow_lt8 (i := i) (by omega)
    have hav : a * 2 ^ i ≤ 255 * 128 := Nat.mul_le_mul (by omega) hp
    rw [Gy.i64_xor v (a * 2 ^ i) (by omega) (by omega)]
    have hm : Gy.rmulV (f + 1) a b v i = Gy.rmulV f a b (if (b / 2 ^ i) % 2 = 1 then v ^^^ (a * 2 ^ i) else v) (i + 1) := rfl
    by_cases h1 : (b / 2 ^ i) % 2 = 1
    · rw [if_pos (by omega), hm, if_pos h1]
      exact ih _ _ _ _ _ (by omega) ha hb (Gy.xor_lt 20 hv (by omega)) (by omega)
    · rw [if_neg (by omega), hm, if_neg h1]
      exact ih _ _ _ _ _ (by omega) ha hb hv (by omega)
theorem rmul_def (a b : Nat) : Gy.rmul a b = Gy.rmulR 7 (Gy.rmulV 8 a b 0 0) % 256 := by unfold Gy.rmul; rfl
theorem rmul {k : Nat} (hk : 18 ≤ k) {a b : Nat} (ha : a < 256) (hb : b < 256) : geyserref03_Mul.f k a b = some ((Gy.gmul a b : Nat) : Int) := by
  have h := rm_l0 8 0 a b 0 k (by omega) ha hb (by omega) (by omega)
  rw [← rmul_def, Gy.rmul_eq ha hb] at h
  exact h
/-- c times a number -/
def mulI (c : Nat) (y : Int) : Int := ((Gy.gmul y.toNat c : Nat) : Int)
def addI (c : Nat) (x y : Int) : Int := ((x.toNat ^^^ Gy.gmul y.toNat c : Nat) : Int)
/-- a, and c times b, place by place -/
def plusL (a b : List Int) (c : Nat) : List Int := List.zipWith (addI c) a b
def By (l : List Int) : Prop := ∀ x ∈ l, 0 ≤ x ∧ x < 256
theorem By.at {l : List Int} (h : By l) (i : Nat) (hi : i < l.length) : ∃ n : Nat, l[i] = (n : Int) ∧ n < 256 := by
  have h1 := h _ (List.getElem_mem hi)
  exact ⟨(l[i]).toNat, by omega, by omega⟩
theorem plusL_length {a b : List Int} (h : b.length = a.length) (c : Nat) : (plusL a b c).length = a.length := by
  unfold plusL; rw [List.length_zipWith]; omega
theorem plusL_at {a b : List Int} (c : Nat) (i : Nat) (h1 : i < a.length) (h2 : i < b.length) (h3 : i < (plusL a b c).length) : (plusL a b c)[i] = addI c a[i] b[i] := by
  exact List.getElem_zipWith (h := h3)
theorem addI_by (c : Nat) (x y : Nat) (hx : x < 256) (hy : y < 256) (hc : c < 256) : addI c x y = ((x ^^^ Gy.gmul y c : Nat) : Int) ∧ x ^^^ Gy.gmul y c < 256 := by
  unfold addI
  rw [Int.toNat_natCast, Int.toNat_natCast]
  exact ⟨rfl, Gy.xor_lt8 hx (Gy.gmul_lt hy hc)⟩
theorem plusL_by {a b : List Int} {c : Nat} (ha : By a) (hb : By b) (hc : c < 256) (hl : b.length = a.length) : By (plusL a b c) := by
  intro x hx
  obtain ⟨i, hi, rfl⟩ := List.mem_iff_getElem.1 hx
  have hl2 := plusL_length hl c
  obtain ⟨m, hm, lm⟩ := ha.at i (by omega)
  obtain ⟨n, hn, ln⟩ := hb.at i (by omega)
  rw [plusL_at c i (by omega) (by omega), hm, hn]
  obtain ⟨e, l⟩ := addI_by c m n lm ln hc
  rw [e]; omega
theorem rd_at (l : List Int) (i : Nat) (hi : i < l.length) : rd l (i : Int) = l[i] := by
  unfold rd
  rw [Int.toNat_natCast, List.getD_eq_getElem?_getD, List.getElem?_eq_getElem hi]
  rfl
theorem plus_l0 (a b : List Int) (c : Nat) (ha : By a) (hb : By b) (hc : c < 256) (hl : b.length = a.length) (hn : a.length ≤ 9223372036854775807) : ∀ (d i k : Nat) (out : List Int), i + d = a.length → out.length = a.length → d + 20 < k →
    geyserref03_Plus.l0 k a b c out (a.length : Int) (i : Int) = some (out.take i ++ (plusL a b c).drop i) := by
  intro d
  have hpl := plusL_length hl c
  induction d with
  | zero =>
    intro i k out hi ho hk
    obtain ⟨k, rfl⟩ : ∃ m, k = m + 1 := ⟨k - 1, by omega⟩
    simp only [geyserref03_Plus.l0]
    rw [if_neg (by omega), List.drop_eq_nil_of_le (by omega), List.append_nil, List.take_of_length_le (by omega)]
  | succ d ih =>
    intro i k out hi ho hk
    obtain ⟨k, rfl⟩ : ∃ m, k = m + 1 := ⟨k - 1, by omega⟩
    simp only [geyserref03_Plus.l0]
    obtain ⟨m, hm, lm⟩ := ha.at i (by omega)
    obtain ⟨n, hn2, ln⟩ := hb.at i (by omega)
    rw [if_pos (by omega), if_pos (by omega), if_pos (by omega), if_pos (by omega), rd_at a i (by omega), rd_at b i (by omega), hm, hn2, rmul (by omega) ln hc, Option.bind_some, if_pos (by omega)]
    rw [Go.u8_xor_nat m (Gy.gmul n c) lm (Gy.gmul_lt ln hc), Gy.wrap64_id (by omega) (by omega), Int.toNat_natCast]
    rw [show ((i : Int) + 1) = ((i + 1 : Nat) : Int) from by omega]
    rw [ih (i + 1) k _ (by omega) (by rw [List.length_set]; omega) (by omega)]
    congr 1
    rw [List.take_succ_eq_append_getElem (by rw [List.length_set]; omega), List.drop_eq_getElem_cons (show i < (plusL a b c).length by omega), plusL_at c i (by omega) (by omega), hm, hn2, (addI_by c m n lm ln hc).1]
    rw [List.getElem_set_self, List.take_set, List.append_assoc]
    congr 1
    rw [List.set_eq_of_length_le (by rw [List.length_take]; omega)]
theorem plus_f {a b : List Int} {c k : Nat} (ha : By a) (hb : By b) (hc : c < 256) (hl : b.length = a.length) (hn : a.length ≤ 281474976710656) (hk : a.length + 20 < k) : geyserref03_Plus.f k a b c = some (plusL a b c) := by
  unfold geyserref03_Plus.f
  rw [if_pos (by omega), if_pos (by omega), Int.toNat_natCast]
  have h := plus_l0 a b c ha hb hc hl (by omega) a.length 0 k (List.replicate a.length 0) (by omega) (by rw [List.length_replicate]) hk
  rw [List.take_zero, List.nil_append, List.drop_zero] at h
  exact h
theorem kd_of_reads {w : World} {A : Option Addr} {n : Nat} {xs : List Int} (h : ReadsInt w .u8 A n xs) : Kd.C (Kd.int .u8) w A xs.length xs := by
  obtain rfl : xs.length = n := h.1
  exact Kd.C_of_reads (enc := Value.int .u8) (d := (0 : Int)) (h1 := fun _ => rfl) h
theorem plus_calls (A0 : Option Addr) (c0 : Nat) (A1 : Option Addr) (c1 n c : Nat) (a b : List Int) (w : World) (h0 : ReadsInt w .u8 A0 n a) (h1 : ReadsInt w .u8 A1 n b) (l0 : n ≤ c0) (l1 : n ≤ c1) (ha : By a) (hb : By b) (hc : c < 256) (hn : n ≤ 100000) :
    Calls Try.prog 20 #[.slice A0 n c0, .slice A1 n c1, .int .u8 c] w fun e w' => ∃ A' c', e = .returned (.slice A' n c') ∧ ReadsInt w' .u8 A' n (plusL a b c) ∧ Below w.heap.size w w' := by
  have k0 := kd_of_reads h0
  have k1 := kd_of_reads h1
  have e0 := h0.1
  have e1 := h1.1
  have hl : b.length = a.length := e1.trans e0.symm
  have h := geyserref03_Plus.calls (a.length + 21) A0 c0 a A1 c1 b c _ w k0 (by omega) k1 (by omega) (plus_f ha hb hc hl (by omega) (by omega))
  rw [e0, e1] at h
  refine h.mono fun e w' ⟨v, he, hR, hB⟩ => ?_
  obtain ⟨A', c', rfl, _, hC⟩ := Kd.R_reads hR
  have hr := Gy.reads_of_kd hC
  rw [plusL_length hl c, e0] at hr he
  exact ⟨A', c', he, hr, hB⟩
theorem mul_calls (a b : Nat) (w : World) (ha : a < 256) (hb : b < 256) : Calls Try.prog 95 #[.int .u8 a, .int .u8 b] w fun e w' => e = .returned (.int .u8 (Gy.gmul a b : Nat)) ∧ Below w.heap.size w w' :=
  (field_Mul.calls 20 a b _ w (fmul (by omega) ha hb)).mono fun _ _ h => ⟨h.1, h.2.below⟩
end Go.Proofs.Ytcmigmldecacpaa.Vec
