/- Any bytes' CRC is what the document says. No condition beyond the kind of the argument. -/
import Derived.Test.YtkheloahiepoiaaQSumCRCx1
import Derived.Test.YtkheloahiepoiaaCrc
namespace Go.Proofs.Ytkheloahiepoiaa.Pure
open Go Go.RowKit Go.Proofs.Ytkheloahiepoiaa.QSumCRC Go.Proofs.YtkheloahiepoiaaW.PrintWords Go.Proofs.YtkheloahiepoiaaW.PrintLast

theorem turn_l0 : ∀ (n c i k : Nat), i + n = 8 → c < 4294967296 → n < k → sum_turn.l0 k c i = some ((Gy.cturn n c : Nat) : Int) := by
  intro n
  induction n with
  | zero =>
    intro c i k hi hc hk
    obtain ⟨k, rfl⟩ : ∃ m, k = m + 1 := ⟨k - 1, by omega⟩
    simp only [sum_turn.l0]
    rw [if_neg (by omega)]
    rfl
  | succ n ih =>
    intro c i k hi hc hk
    obtain ⟨k, rfl⟩ : ∃ m, k = m + 1 := ⟨k - 1, by omega⟩
    simp only [sum_turn.l0]
    rw [if_pos (by omega)]
    have e1 : Go.bits .and .u32 (c : Int) 1 = ((c % 2 : Nat) : Int) := by
      have h := Go.u32_and_nat c 1 hc (by omega)
      rw [Nat.and_one_is_mod] at h
      exact h
    rw [e1]
    have e2 : wrap64 ((i : Int) + 1) = ((i + 1 : Nat) : Int) := by rw [Gy.wrap64_id (by omega) (by omega)]; omega
    rw [e2]
    have e3 : Go.bits .xor .u32 ((c : Int) / 2) (Go.bits .and .u32 3988292384 ((-((c % 2 : Nat) : Int)) % 4294967296)) = ((Gy.cstep c : Nat) : Int) := by
      unfold Gy.cstep
      have ed : (c : Int) / 2 = ((c / 2 : Nat) : Int) := by omega
      rw [ed]
      by_cases h : c % 2 = 1
      · rw [if_pos h, h]
        have ea : Go.bits .and .u32 3988292384 ((-((1 : Nat) : Int)) % 4294967296) = ((3988292384 : Nat) : Int) := by decide +kernel
        rw [ea, Go.u32_xor_nat _ _ (by omega) (by omega)]
      · rw [if_neg h, show c % 2 = 0 from by omega]
        have ea : Go.bits .and .u32 3988292384 ((-((0 : Nat) : Int)) % 4294967296) = ((0 : Nat) : Int) := by decide +kernel
        rw [ea, Go.u32_xor_nat _ _ (by omega) (by omega), Nat.xor_zero]
    rw [e3]
    exact ih _ _ _ (by omega) (Gy.cstep_lt hc) (by omega)
theorem turn_f {k c : Nat} (hk : 9 ≤ k) (hc : c < 4294967296) : sum_turn.f k c = some ((Gy.cturn 8 c : Nat) : Int) := by
  unfold sum_turn.f
  exact turn_l0 8 c 0 k (by omega) hc (by omega)
theorem low_byte (c x : Nat) (hc : c < 4294967296) : (c &&& (4294967295 - 255)) ^^^ ((c % 256) ^^^ x) = c ^^^ x := by
  have h : (c &&& 4294967040) ^^^ (c % 256) = c := by
    have h2 : c % 256 = c &&& 255 := by
      have := Nat.and_two_pow_sub_one_eq_mod c 8
      simpa using this.symm
    rw [h2]
    apply Nat.eq_of_testBit_eq
    intro i
    simp only [Nat.testBit_xor, Nat.testBit_and]
    by_cases hi : i < 32
    · have : (4294967040 : Nat).testBit i = !((255 : Nat).testBit i) := by
        have := allB32 i hi
        exact this
      rw [this]
      cases c.testBit i <;> cases (255 : Nat).testBit i <;> rfl
    · have hcb : c.testBit i = false := Nat.testBit_lt_two_pow (Nat.lt_of_lt_of_le hc (Nat.pow_le_pow_right (n := 2) (i := 32) (by omega) (by omega)))
      rw [hcb]; rfl
  show (c &&& 4294967040) ^^^ ((c % 256) ^^^ x) = c ^^^ x
  rw [← Nat.xor_assoc, h]
where
  allB32 : ∀ i, i < 32 → (4294967040 : Nat).testBit i = !((255 : Nat).testBit i) := by decide
theorem crc_l0 : ∀ (d : Nat) (c i k : Nat) (l : List Int), c < 4294967296 → (∀ x ∈ l, 0 ≤ x ∧ x < 256) → l.length ≤ 9223372036854775807 → i + d = l.length → d + 10 < k →
    sum_CRC.l0 k c l (l.length : Int) i = some ((Gy.crcFold c (l.drop i) ^^^ 4294967295 : Nat) : Int) := by
  intro d
  induction d with
  | zero =>
    intro c i k l hc hx hl hi hk
    obtain ⟨k, rfl⟩ : ∃ m, k = m + 1 := ⟨k - 1, by omega⟩
    simp only [sum_CRC.l0]
    rw [if_neg (by omega), List.drop_eq_nil_of_le (by omega)]
    have h := Go.u32_xor_nat 4294967295 c (by omega) hc
    rw [Nat.xor_comm] at h
    exact congrArg some h
  | succ d ih =>
    intro c i k l hc hx hl hi hk
    obtain ⟨k, rfl⟩ : ∃ m, k = m + 1 := ⟨k - 1, by omega⟩
    simp only [sum_CRC.l0]
    have hi' : i < l.length := by omega
    rw [if_pos (by omega), if_pos (by omega), if_pos (by omega)]
    have hr : rd l (i : Int) = l[i] := by
      unfold rd
      rw [Int.toNat_natCast, List.getD_eq_getElem?_getD, List.getElem?_eq_getElem hi']
      rfl
    have hb := hx l[i] (List.getElem_mem hi')
    obtain ⟨n, hn⟩ : ∃ n : Nat, l[i] = n := ⟨l[i].toNat, by omega⟩
    have hn2 : n < 256 := by omega
    rw [hr, hn]
    have e0 : (c : Int) % 256 = ((c % 256 : Nat) : Int) := by omega
    have e1 : Go.bits .xor .u8 ((c : Int) % 256) (n : Int) = ((c % 256 ^^^ n : Nat) : Int) := by rw [e0]; exact Go.u8_xor_nat _ _ (by omega) (by omega)
    have h8 : c % 256 ^^^ n < 256 := Nat.xor_lt_two_pow (n := 8) (by omega) (by omega)
    rw [e1, show (((c % 256 ^^^ n : Nat) : Int)) % 4294967296 = ((c % 256 ^^^ n : Nat) : Int) from by omega]
    have e2 : Go.bits .andNot .u32 (c : Int) 255 = ((c &&& (4294967295 - 255) : Nat) : Int) := Go.u32_andNot_nat c 255 hc (by omega)
    have hle : (c &&& (4294967295 - 255)) < 4294967296 := Nat.lt_of_le_of_lt Nat.and_le_left hc
    rw [e2, Go.u32_xor_nat _ _ hle (by omega), low_byte c n hc]
    have hlt : c ^^^ n < 4294967296 := Gy.xor_lt32 hc (by omega)
    rw [turn_f (by omega) hlt, Option.bind_some, show wrap64 ((i : Int) + 1) = ((i + 1 : Nat) : Int) from by rw [Gy.wrap64_id (by omega) (by omega)]; omega]
    rw [ih _ (i + 1) k l (Gy.cturn_lt 8 _ hlt) hx hl (by omega) (by omega)]
    rw [List.drop_eq_getElem_cons hi', hn]
    rfl
theorem crc_f {k : Nat} {l : List Int} (hx : ∀ x ∈ l, 0 ≤ x ∧ x < 256) (hl : l.length ≤ 9223372036854775807) (hk : l.length + 10 < k) : sum_CRC.f k l = some ((Gy.crc l : Nat) : Int) := by
  unfold sum_CRC.f
  exact crc_l0 l.length 4294967295 0 k l (by omega) hx hl (by omega) hk
theorem rcrc_bit {c b : Nat} (hc : c < 4294967296) (hb : b < 256) (i : Nat) (hi : i < 8) :
    (if (Go.bits .xor .u64 (Int.tmod (c : Int) 2) (IntKind.u64.wrap (Go.bits .and .u8 (shr .u8 (b : Int) (IntKind.u64.wrap (i : Int))) 1))) = 1
      then Go.bits .xor .u64 (IntKind.u64.wrap (Int.tdiv (c : Int) 2)) 3988292384 else IntKind.u64.wrap (Int.tdiv (c : Int) 2)) = ((Gy.cstep (c ^^^ (b / 2 ^ i) % 2) : Nat) : Int) := by
  have es : shr .u8 (b : Int) (IntKind.u64.wrap (i : Int)) = ((b / 2 ^ i : Nat) : Int) := by
    unfold shr
    rw [Gy.u64_wrap_id (by omega) (by omega)]
    have e : min ((i : Int)).toNat (IntKind.bits .u8) = i := by show min i 8 = i; omega
    rw [e]
    norm_cast
  have hle : b / 2 ^ i < 256 := Nat.lt_of_le_of_lt (Nat.div_le_self _ _) hb
  rw [es, Gy.u8_and1 _ hle]
  have hd : b / 2 ^ i % 2 < 2 := Nat.mod_lt _ (by omega)
  generalize b / 2 ^ i % 2 = t at *
  rw [Gy.u64_wrap_id (n := (t : Int)) (by omega) (by omega), Int.tmod_eq_emod_of_nonneg (by omega), Int.tdiv_eq_ediv_of_nonneg (by omega)]
  rw [show (c : Int) % 2 = ((c % 2 : Nat) : Int) from by omega, show (c : Int) / 2 = ((c / 2 : Nat) : Int) from by omega]
  rw [Gy.u64_wrap_id (n := ((c / 2 : Nat) : Int)) (by omega) (by omega), Go.u64_xor_nat _ _ (by omega) (by omega)]
  have e1 : (c ^^^ t) % 2 = (c % 2) ^^^ t := by rw [Gy.xor_mod2, Nat.mod_eq_of_lt hd]
  have e2 : (c ^^^ t) / 2 = c / 2 := by rw [Gy.xor_div2, Nat.div_eq_of_lt hd, Nat.xor_zero]
  unfold Gy.cstep
  rw [e1, e2]
  have ep : Go.bits .xor .u64 ((c / 2 : Nat) : Int) 3988292384 = ((c / 2 ^^^ 3988292384 : Nat) : Int) := Go.u64_xor_nat (c / 2) 3988292384 (by omega) (by omega)
  rw [ep]
  by_cases h : c % 2 ^^^ t = 1
  · rw [if_pos (by omega), if_pos h]
  · rw [if_neg (by omega), if_neg h]
theorem ite_call {c : Prop} [Decidable c] (g : Int → Option Int) (x y : Int) : (if c then g x else g y) = g (if c then x else y) := by split <;> rfl
theorem rcrc_l1 : ∀ (n c i j k : Nat) (l : List Int) (b : Nat) (hj : j < l.length), l[j] = (b : Int) → i + n = 8 → c < 4294967296 → b < 256 → l.length ≤ 9223372036854775807 → n < k →
    geyserref01_CRC.l1 k l c j (l.length : Int) j i = geyserref01_CRC.l0 (k - n - 1) l ((Gy.cbits n (b / 2 ^ i) c : Nat) : Int) (l.length : Int) ((j + 1 : Nat) : Int) := by
  intro n
  induction n with
  | zero =>
    intro c i j k l b hj hb hi hc hb2 hl hk
    obtain ⟨k, rfl⟩ : ∃ m, k = m + 1 := ⟨k - 1, by omega⟩
    simp only [geyserref01_CRC.l1]
    rw [if_neg (by omega), show wrap64 ((j : Int) + 1) = ((j + 1 : Nat) : Int) from by rw [Gy.wrap64_id (by omega) (by omega)]; omega]
    rfl
  | succ n ih =>
    intro c i j k l b hj hb hi hc hb2 hl hk
    obtain ⟨k, rfl⟩ : ∃ m, k = m + 1 := ⟨k - 1, by omega⟩
    simp only [geyserref01_CRC.l1]
    have hr : rd l (j : Int) = (b : Int) := by
      unfold rd
      rw [Int.toNat_natCast, List.getD_eq_getElem?_getD, List.getElem?_eq_getElem hj]
      exact hb
    rw [if_pos (by omega), if_pos (by omega), if_pos (by omega), if_pos (by rw [Gy.u64_wrap_id (by omega) (by omega)]; omega), hr]
    rw [ite_call (fun v => geyserref01_CRC.l1 k l v (j : Int) (l.length : Int) (j : Int) (wrap64 ((i : Int) + 1)))]
    rw [rcrc_bit hc hb2 i (by omega), show wrap64 ((i : Int) + 1) = ((i + 1 : Nat) : Int) from by rw [Gy.wrap64_id (by omega) (by omega)]; omega]
    have hd : b / 2 ^ i % 2 < 2 := Nat.mod_lt _ (by omega)
    rw [ih _ (i + 1) j k l b hj hb (by omega) (Gy.cstep_lt (Gy.xor_lt32 hc (by omega))) hb2 hl (by omega)]
    rw [show k + 1 - (n + 1) - 1 = k - n - 1 from by omega, Nat.pow_succ, ← Nat.div_div_eq_div_mul]
    rfl
theorem rcrc_l0 : ∀ (d : Nat) (c i k : Nat) (l : List Int), c < 4294967296 → (∀ x ∈ l, 0 ≤ x ∧ x < 256) → l.length ≤ 9223372036854775807 → i + d = l.length → 10 * d < k →
    geyserref01_CRC.l0 k l c (l.length : Int) i = some ((Gy.crcFold c (l.drop i) ^^^ 4294967295 : Nat) : Int) := by
  intro d
  induction d with
  | zero =>
    intro c i k l hc hx hl hi hk
    obtain ⟨k, rfl⟩ : ∃ m, k = m + 1 := ⟨k - 1, by omega⟩
    simp only [geyserref01_CRC.l0]
    rw [if_neg (by omega), List.drop_eq_nil_of_le (by omega)]
    have h : Go.bits .xor .u64 (c : Int) 4294967295 = ((c ^^^ 4294967295 : Nat) : Int) := Go.u64_xor_nat c 4294967295 (by omega) (by omega)
    have hlt := Gy.xor_lt32 hc (show 4294967295 < 4294967296 by omega)
    rw [h]
    congr 1
    show ((c ^^^ 4294967295 : Nat) : Int) % 4294967296 = ((c ^^^ 4294967295 : Nat) : Int)
    omega
  | succ d ih =>
    intro c i k l hc hx hl hi hk
    obtain ⟨k, rfl⟩ : ∃ m, k = m + 1 := ⟨k - 1, by omega⟩
    simp only [geyserref01_CRC.l0]
    have hi' : i < l.length := by omega
    have hb := hx l[i] (List.getElem_mem hi')
    obtain ⟨n, hn⟩ : ∃ n : Nat, l[i] = n := ⟨l[i].toNat, by omega⟩
    rw [if_pos (by omega)]
    have h1 := rcrc_l1 8 c 0 i k l n hi' hn (by omega) hc (by omega) hl (by omega)
    rw [show n / 2 ^ 0 = n from by simp] at h1
    have h1' : geyserref01_CRC.l1 k l c i (l.length : Int) i 0 = geyserref01_CRC.l0 (k - 8 - 1) l ((Gy.cbits 8 n c : Nat) : Int) (l.length : Int) ((i + 1 : Nat) : Int) := h1
    rw [h1', ← Gy.cturn_bits 8 c n (by omega)]
    have hlt : c ^^^ n < 4294967296 := Gy.xor_lt32 hc (by omega)
    rw [ih _ (i + 1) _ l (Gy.cturn_lt 8 _ hlt) hx hl (by omega) (by omega)]
    rw [List.drop_eq_getElem_cons hi', hn]
    rfl
theorem rcrc_f {k : Nat} {l : List Int} (hx : ∀ x ∈ l, 0 ≤ x ∧ x < 256) (hl : l.length ≤ 9223372036854775807) (hk : 10 * l.length < k) : geyserref01_CRC.f k l = some ((Gy.crc l : Nat) : Int) := by
  unfold geyserref01_CRC.f
  exact rcrc_l0 l.length 4294967295 0 k l (by omega) hx hl (by omega) hk
theorem SumCRC : geyserlaw02_SumCRC.Pure := by
  intro l h1 h2 h3
  have hx : ∀ x ∈ l, 0 ≤ x ∧ x < 256 := fun x h => Gy.u8_range (h3 x h)
  obtain ⟨k, hk⟩ : ∃ k : Nat, 10 * l.length + 100 ≤ k := ⟨_, Nat.le_refl _⟩
  refine ⟨k, ?_⟩
  have hw : geyserlaw02_awake.f k = some true := by
    unfold geyserlaw02_awake.f
    rw [crc_f (by decide) (by decide) (by show 9 + 10 < k; omega), Option.bind_some]
    decide +kernel
  unfold geyserlaw02_SumCRC.f
  rw [hw, Option.bind_some, if_pos rfl]
  obtain ⟨k, rfl⟩ : ∃ m, k = m + 1 := ⟨k - 1, by omega⟩
  simp only [geyserlaw02_SumCRC.j0]
  have hw' : geyserlaw02_awake.f k = some true := by
    unfold geyserlaw02_awake.f
    rw [crc_f (by decide) (by decide) (by show 9 + 10 < k; omega), Option.bind_some]
    decide +kernel
  split
  · rw [hw']; rfl
  · rw [crc_f hx (by omega) (by omega), Option.bind_some, rcrc_f hx (by omega) (by omega), Option.bind_some]
    simp

end Go.Proofs.Ytkheloahiepoiaa.Pure
