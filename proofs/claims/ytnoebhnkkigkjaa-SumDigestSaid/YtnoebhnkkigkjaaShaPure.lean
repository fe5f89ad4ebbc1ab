/- What the printed functions of package sum say, in plain numbers. -/
import Derived.Test.YtnoebhnkkigkjaaQDigx2
import Derived.Test.YtnoebhnkkigkjaaSha
import Derived.Test.YtnoebhnkkigkjaaBt
import Derived.Laws.Bits64
import Derived.Laws.Bits64b
namespace Go.Proofs.Ytnoebhnkkigkjaa.Dig
open Go Go.RowKit Go.Proofs.Ytnoebhnkkigkjaa.QDig Go.Proofs.YtnoebhnkkigkjaaW.PrintWords Go.Proofs.YtnoebhnkkigkjaaW.PrintLast Gy

theorem u64id {n : Int} (h0 : 0 ≤ n) (h1 : n < 18446744073709551616) : IntKind.u64.wrap n = n := Gy.u64_wrap_id h0 h1
theorem u64wrap (n : Int) : IntKind.u64.wrap n = n % 18446744073709551616 := by simp [IntKind.wrap, IntKind.bits, IntKind.signed]
theorem u32wrap (n : Int) : IntKind.u32.wrap n = n % 4294967296 := by simp [IntKind.wrap, IntKind.bits, IntKind.signed]
theorem shr_nat {k : IntKind} (x n : Nat) (h : n ≤ k.bits) : shr k (x : Int) (n : Int) = ((x / 2 ^ n : Nat) : Int) := by
  unfold shr
  have e : min ((n : Int)).toNat k.bits = n := by rw [Int.toNat_natCast]; omega
  rw [e]
  norm_cast
theorem shl_u32 (x n : Nat) (h : n ≤ 32) : shl .u32 (x : Int) (n : Int) = ((x * 2 ^ n % 4294967296 : Nat) : Int) := by
  unfold shl
  have e : min ((n : Int)).toNat IntKind.u32.bits = n := by rw [Int.toNat_natCast]; show min n 32 = n; omega
  have e2 : (x : Int) * 2 ^ n = ((x * 2 ^ n : Nat) : Int) := by norm_cast
  rw [e, u32wrap, e2]
  exact (Int.natCast_emod _ 4294967296).symm
theorem shl_u64 (x n : Nat) (h : n ≤ 64) (hx : x * 2 ^ n < 18446744073709551616) : shl .u64 (x : Int) (n : Int) = ((x * 2 ^ n : Nat) : Int) := by
  unfold shl
  have e : min ((n : Int)).toNat IntKind.u64.bits = n := by rw [Int.toNat_natCast]; show min n 64 = n; omega
  have e2 : (x : Int) * 2 ^ n = ((x * 2 ^ n : Nat) : Int) := by norm_cast
  rw [e, e2, u64id (by omega) (by omega)]
theorem mul_lt32 {x n : Nat} (hx : x < 4294967296) (hn : n ≤ 32) : x * 2 ^ n < 18446744073709551616 := by
  have h1 : 2 ^ n ≤ 2 ^ 32 := Nat.pow_le_pow_right (by omega) hn
  have h2 : x * 2 ^ n ≤ 4294967295 * 2 ^ 32 := Nat.mul_le_mul (by omega) h1
  omega
theorem right_f {x n : Nat} (hx : x < 4294967296) (h1 : 1 ≤ n) (h2 : n ≤ 31) : sum_right.f (x : Int) (n : Int) = some ((ror n x : Nat) : Int) := by
  have e0 : Go.bits .and .u64 (IntKind.u64.wrap (wrap64 (-(n : Int)))) 31 = ((32 - n : Nat) : Int) := by
    have e1 : IntKind.u64.wrap (wrap64 (-(n : Int))) = ((18446744073709551616 - n : Nat) : Int) := by rw [u64wrap, Gy.wrap64_id (by omega) (by omega)]; omega
    have e2 := Go.bits_and_u64_nat (18446744073709551616 - n) 31 (by omega) (by omega)
    have e3 : (18446744073709551616 - n) &&& 31 = 32 - n := by
      have := Nat.and_two_pow_sub_one_eq_mod (18446744073709551616 - n) 5
      rw [show (2 ^ 5 - 1 : Nat) = 31 from rfl] at this
      rw [this]
      omega
    rw [e1]
    exact e2.trans (by rw [e3])
  have e4 : IntKind.u64.wrap (32 - ((32 - n : Nat) : Int)) = (n : Int) := by rw [u64id (by omega) (by omega)]; omega
  have e5 : Go.bits .or .u32 ((x * 2 ^ (32 - n) % 4294967296 : Nat) : Int) ((x / 2 ^ n : Nat) : Int) = ((ror n x : Nat) : Int) := by
    rw [Go.u32_or_nat _ _ (Nat.mod_lt _ (by omega)) (Nat.lt_of_le_of_lt (Nat.div_le_self _ _) hx), Nat.or_comm]
    rfl
  unfold sum_right.f bits_RotateLeft32.f
  rw [e0, if_pos (by omega), e4, if_pos (by omega), shl_u32 x (32 - n) (by omega), shr_nat x n (by show n ≤ 32; omega), e5]
  rfl
theorem turned_f {x n : Nat} (hx : x < 4294967296) (h1 : 1 ≤ n) (h2 : n ≤ 31) : geyserref01_turned.f (x : Int) (n : Int) = some ((ror n x : Nat) : Int) := by
  have e4 : IntKind.u64.wrap (32 - (n : Int)) = ((32 - n : Nat) : Int) := by rw [u64id (by omega) (by omega)]; omega
  have hl := mul_lt32 (n := 32 - n) hx (by omega)
  have hd : x / 2 ^ n < 4294967296 := Nat.lt_of_le_of_lt (Nat.div_le_self _ _) hx
  have ho : x / 2 ^ n ||| x * 2 ^ (32 - n) < 18446744073709551616 := Nat.or_lt_two_pow (n := 64) (by omega) (by omega)
  have e5 := Go.bits_or_u64_nat (x / 2 ^ n) (x * 2 ^ (32 - n)) (by omega) hl
  have e6 := Go.bits_and_u64_nat (x / 2 ^ n ||| x * 2 ^ (32 - n)) 4294967295 ho (by omega)
  rw [ror_mask hx] at e6
  unfold geyserref01_turned.f
  rw [if_pos (by omega), e4, if_pos (by omega), shr_nat x n (by show n ≤ 64; omega), shl_u64 x (32 - n) (by omega) hl]
  exact congrArg some ((congrArg (fun z => Go.bits .and .u64 z 4294967295) e5).trans e6)
theorem right_lit {x : Nat} (hx : x < 4294967296) (n : Int) (m : Nat) (h : n = (m : Int)) (h1 : 1 ≤ m) (h2 : m ≤ 31) : sum_right.f (x : Int) n = some ((ror m x : Nat) : Int) := by rw [h]; exact right_f hx h1 h2
theorem xorN {a b : Nat} (ha : a < 4294967296) (hb : b < 4294967296) : Go.bits .xor .u32 (a : Int) (b : Int) = ((a ^^^ b : Nat) : Int) := Go.u32_xor_nat a b ha hb
theorem andN {a b : Nat} (ha : a < 4294967296) (hb : b < 4294967296) : Go.bits .and .u32 (a : Int) (b : Int) = ((a &&& b : Nat) : Int) := Go.u32_and_nat a b ha hb
theorem orN {a b : Nat} (ha : a < 4294967296) (hb : b < 4294967296) : Go.bits .or .u32 (a : Int) (b : Int) = ((a ||| b : Nat) : Int) := Go.u32_or_nat a b ha hb
def tup (s : St) : Int × Int × Int × Int × Int × Int × Int × Int := (s.a, s.b, s.c, s.d, s.e, s.f, s.g, s.h)
theorem round_f {s : St} {x : Nat} (h : s.ok) : sum_state_round.f s.a s.b s.c s.d s.e s.f s.g s.h x = some (tup (rnd s x)) := by
  have e6 := right_lit h.e 6 6 rfl (by omega) (by omega)
  have e11 := right_lit h.e 11 11 rfl (by omega) (by omega)
  have e25 := right_lit h.e 25 25 rfl (by omega) (by omega)
  have e2 := right_lit h.a 2 2 rfl (by omega) (by omega)
  have e13 := right_lit h.a 13 13 rfl (by omega) (by omega)
  have e22 := right_lit h.a 22 22 rfl (by omega) (by omega)
  have r (n x : Nat) (h : x < 4294967296) : ror n x < 4294967296 := ror_lt h
  unfold sum_state_round.f
  rw [e6, Option.bind_some, e11, Option.bind_some, e25, Option.bind_some, e2, Option.bind_some, e13, Option.bind_some, e22, Option.bind_some]
  rw [xorN (r 6 _ h.e) (r 11 _ h.e), xorN (xor32 (r 6 _ h.e) (r 11 _ h.e)) (r 25 _ h.e), xorN (r 2 _ h.a) (r 13 _ h.a), xorN (xor32 (r 2 _ h.a) (r 13 _ h.a)) (r 22 _ h.a)]
  rw [xorN h.f h.g, andN h.e (xor32 h.f h.g), xorN h.g (and32 h.e), andN h.a h.b, orN h.a h.b, andN h.c (or32 h.a h.b), orN (and32 h.a) (and32 h.c)]
  unfold tup rnd one two
  change some (((s.h : Int) + (bs1 s.e : Nat) + (chs s.e s.f s.g : Nat) + (x : Int) + ((bs0 s.a : Nat) + (mjs s.a s.b s.c : Nat) : Int)) % 4294967296, (s.a : Int), (s.b : Int), (s.c : Int), ((s.d : Int) + ((s.h : Int) + (bs1 s.e : Nat) + (chs s.e s.f s.g : Nat) + (x : Int))) % 4294967296, (s.e : Int), (s.f : Int), (s.g : Int)) = _
  congr 2
  · generalize bs1 s.e = p; generalize chs s.e s.f s.g = q; generalize bs0 s.a = u; generalize mjs s.a s.b s.c = v
    simp only
    omega
  · congr 4
    generalize bs1 s.e = p; generalize chs s.e s.f s.g = q
    simp only
    omega
theorem plus_f (s t : St) : sum_state_plus.f s.a s.b s.c s.d s.e s.f s.g s.h t.a t.b t.c t.d t.e t.f t.g t.h = some (tup (s.plus t)) := by
  unfold sum_state_plus.f tup St.plus
  simp only [Int.natCast_emod, Int.natCast_add, Int.cast_ofNat_Int]
theorem begin_f : sum_begin.f = some (tup Gy.begun) := rfl
theorem rd_getD (l : List Int) (i : Nat) : rd l (i : Int) = l.getD i 0 := by unfold rd; rw [Int.toNat_natCast]
theorem or_byte (c y : Nat) (hy : y < 256) : c * 256 ||| y = c * 256 + y := by
  have h := Nat.shiftLeft_add_eq_or_of_lt (b := y) (i := 8) (by omega) c
  rw [Nat.shiftLeft_eq] at h
  exact h.symm
theorem number_l0 (l : List Int) (hb : Bytes l) (h4 : l.length = 4) (k : Nat) (hk : 4 < k) : sum_number.l0 k 0 l 4 0 = some ((num4 l : Nat) : Int) := by
  obtain ⟨k, rfl⟩ : ∃ m, k = m + 5 := ⟨k - 5, by omega⟩
  have b (i : Nat) (hi : i < 4) : ∃ y : Nat, l.getD i 0 = (y : Int) ∧ y < 256 ∧ (l.getD i 0).toNat = y := by
    have h1 := hb (l.getD i 0) (by rw [List.getD_eq_getElem?_getD, List.getElem?_eq_getElem (by omega)]; exact List.getElem_mem _)
    exact ⟨(l.getD i 0).toNat, by omega, by omega, rfl⟩
  obtain ⟨y0, e0, l0, f0⟩ := b 0 (by omega)
  obtain ⟨y1, e1, l1, f1⟩ := b 1 (by omega)
  obtain ⟨y2, e2, l2, f2⟩ := b 2 (by omega)
  obtain ⟨y3, e3, l3, f3⟩ := b 3 (by omega)
  have step (k : Nat) (c : Nat) (i : Nat) (hi : i < 4) (y : Nat) (he : l.getD i 0 = (y : Int)) (hy : y < 256) (hc : c < 16777216) : sum_number.l0 (k + 1) (c : Int) l 4 (i : Int) = sum_number.l0 k ((c * 256 + y : Nat) : Int) l 4 ((i + 1 : Nat) : Int) := by
    simp only [sum_number.l0]
    rw [if_pos (by omega), if_pos (by omega), if_pos (by omega), rd_getD, he]
    have e5 : (c : Int) * 256 % 4294967296 = ((c * 256 : Nat) : Int) := by omega
    have e6 : (y : Int) % 4294967296 = (y : Int) := by omega
    rw [e5, e6, orN (by omega) (by omega), or_byte c y hy, Gy.wrap64_id (by omega) (by omega)]
    rfl
  have s0 := step (k + 4) 0 0 (by omega) y0 e0 l0 (by omega)
  have s1 := step (k + 3) (0 * 256 + y0) 1 (by omega) y1 e1 l1 (by omega)
  have s2 := step (k + 2) ((0 * 256 + y0) * 256 + y1) 2 (by omega) y2 e2 l2 (by omega)
  have s3 := step (k + 1) (((0 * 256 + y0) * 256 + y1) * 256 + y2) 3 (by omega) y3 e3 l3 (by omega)
  have s4 : sum_number.l0 (k + 1) (((((0 * 256 + y0) * 256 + y1) * 256 + y2) * 256 + y3 : Nat) : Int) l 4 ((3 + 1 : Nat) : Int) = some (((((0 * 256 + y0) * 256 + y1) * 256 + y2) * 256 + y3 : Nat) : Int) := by
    simp only [sum_number.l0]
    rw [if_neg (by omega)]
  have hn : num4 l = (((0 * 256 + y0) * 256 + y1) * 256 + y2) * 256 + y3 := by
    unfold num4
    rw [f0, f1, f2, f3]
    omega
  rw [hn]
  exact s0.trans (s1.trans (s2.trans (s3.trans s4)))
theorem num4_take (l : List Int) : num4 (l.take 4) = num4 l := by
  unfold num4
  have h (i : Nat) (hi : i < 4) : (l.take 4).getD i 0 = l.getD i 0 := by
    rw [List.getD_eq_getElem?_getD, List.getD_eq_getElem?_getD, List.getElem?_take_of_lt hi]
  rw [h 0 (by omega), h 1 (by omega), h 2 (by omega), h 3 (by omega)]
theorem number_f {l : List Int} (hb : Bytes l) (h4 : 4 ≤ l.length) {k : Nat} (hk : 4 < k) : sum_number.f k l = some ((num4 l : Nat) : Int) := by
  have h1 : (l.take 4).length = 4 := by rw [List.length_take]; omega
  unfold sum_number.f
  rw [if_pos (by omega), h1, ← num4_take]
  exact number_l0 _ (hb.take 4) h1 k hk
theorem Number_f {l : List Int} (hb : Bytes l) (h4 : l.length = 4) {k : Nat} (hk : 4 < k) : geyserref01_Number.f k l = some ((num4 l : Nat) : Int) := by
  obtain ⟨k, rfl⟩ : ∃ m, k = m + 5 := ⟨k - 5, by omega⟩
  have b (i : Nat) (hi : i < 4) : ∃ y : Nat, l.getD i 0 = (y : Int) ∧ y < 256 ∧ (l.getD i 0).toNat = y := by
    have h1 := hb (l.getD i 0) (by rw [List.getD_eq_getElem?_getD, List.getElem?_eq_getElem (by omega)]; exact List.getElem_mem _)
    exact ⟨(l.getD i 0).toNat, by omega, by omega, rfl⟩
  obtain ⟨y0, e0, l0, f0⟩ := b 0 (by omega)
  obtain ⟨y1, e1, l1, f1⟩ := b 1 (by omega)
  obtain ⟨y2, e2, l2, f2⟩ := b 2 (by omega)
  obtain ⟨y3, e3, l3, f3⟩ := b 3 (by omega)
  have step (k : Nat) (c : Nat) (i : Nat) (hi : i < 4) (y : Nat) (he : l.getD i 0 = (y : Int)) (hy : y < 256) (hc : c < 16777216) : geyserref01_Number.l0 (k + 1) l (c : Int) 4 (i : Int) = geyserref01_Number.l0 k l ((c * 256 + y : Nat) : Int) 4 ((i + 1 : Nat) : Int) := by
    simp only [geyserref01_Number.l0]
    rw [if_pos (by omega), if_pos (by omega), if_pos (by omega), rd_getD, he]
    rw [u64id (n := (y : Int)) (by omega) (by omega), u64id (n := (c : Int) * 256) (by omega) (by omega), u64id (by omega) (by omega), Gy.wrap64_id (by omega) (by omega)]
    rfl
  have s0 := step (k + 4) 0 0 (by omega) y0 e0 l0 (by omega)
  have s1 := step (k + 3) (0 * 256 + y0) 1 (by omega) y1 e1 l1 (by omega)
  have s2 := step (k + 2) ((0 * 256 + y0) * 256 + y1) 2 (by omega) y2 e2 l2 (by omega)
  have s3 := step (k + 1) (((0 * 256 + y0) * 256 + y1) * 256 + y2) 3 (by omega) y3 e3 l3 (by omega)
  have s4 : geyserref01_Number.l0 (k + 1) l (((((0 * 256 + y0) * 256 + y1) * 256 + y2) * 256 + y3 : Nat) : Int) 4 ((3 + 1 : Nat) : Int) = some (((((0 * 256 + y0) * 256 + y1) * 256 + y2) * 256 + y3 : Nat) : Int) := by
    simp only [geyserref01_Number.l0]
    rw [if_neg (by omega)]
  have hn : num4 l = (((0 * 256 + y0) * 256 + y1) * 256 + y2) * 256 + y3 := by
    unfold num4
    rw [f0, f1, f2, f3]
    omega
  unfold geyserref01_Number.f
  rw [hn, h4]
  exact s0.trans (s1.trans (s2.trans (s3.trans s4)))
/-! ### the rounds' numbers -/
def primes : List Nat := [2, 3, 5, 7, 11, 13, 17, 19, 23, 29, 31, 37, 41, 43, 47, 53, 59, 61, 67, 71, 73, 79, 83, 89, 97, 101, 103, 107, 109, 113, 127, 131, 137, 139, 149, 151, 157, 163, 167, 173, 179, 181, 191, 193, 197, 199, 211, 223, 227, 229, 233, 239, 241, 251, 257, 263, 269, 271, 277, 281, 283, 293, 307, 311]
def cnt (p : Nat) : Nat := primes.countP (· < p)
def primeN (p : Nat) : Bool := primes.contains p
def chkP (p : Nat) : Bool := sum_prime.f 30 (p : Int) == some (primeN p) && (if primeN p then cnt (p + 1) == cnt p + 1 && sum_cube.f 40 (p : Int) == some ((kTab.getD (cnt p) 0 : Nat) : Int) else cnt (p + 1) == cnt p)
theorem chk_all : (List.range 310).all (fun i => chkP (i + 2)) = true := by decide +kernel
theorem chk_at {p : Nat} (h1 : 2 ≤ p) (h2 : p < 312) : chkP p = true := by
  have h := List.all_eq_true.1 chk_all (p - 2) (List.mem_range.2 (by omega))
  rwa [show p - 2 + 2 = p from by omega] at h
theorem cnt_end : cnt 312 = 64 := by decide +kernel
theorem cnt_start : cnt 2 = 0 := by decide +kernel
theorem cnt_mono {p q : Nat} (h : p ≤ q) : cnt p ≤ cnt q := by
  unfold cnt
  refine List.countP_mono_left fun x _ hx => ?_
  simp only [decide_eq_true_eq] at hx ⊢
  omega
end Go.Proofs.Ytnoebhnkkigkjaa.Dig
