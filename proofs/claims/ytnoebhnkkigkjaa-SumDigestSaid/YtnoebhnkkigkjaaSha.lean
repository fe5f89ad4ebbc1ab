/- SHA-256 in plain numbers: no program in sight. -/
import Derived.Laws.BitsAllLaws
import Derived.RowKit
namespace Gy
open Go

theorem or32 {a b : Nat} (ha : a < 4294967296) (hb : b < 4294967296) : a ||| b < 4294967296 := Nat.or_lt_two_pow (n := 32) ha hb
theorem and32 {a b : Nat} (ha : a < 4294967296) : a &&& b < 4294967296 := Nat.lt_of_le_of_lt Nat.and_le_left ha
theorem xor32 {a b : Nat} (ha : a < 4294967296) (hb : b < 4294967296) : a ^^^ b < 4294967296 := Nat.xor_lt_two_pow (n := 32) ha hb
theorem mask32 (a : Nat) : a &&& 4294967295 = a % 4294967296 := Nat.and_two_pow_sub_one_eq_mod a 32
/-- a word, so many to the right, around -/
def ror (n x : Nat) : Nat := x / 2 ^ n ||| x * 2 ^ (32 - n) % 4294967296
theorem ror_lt {n x : Nat} (hx : x < 4294967296) : ror n x < 4294967296 := or32 (Nat.lt_of_le_of_lt (Nat.div_le_self _ _) hx) (Nat.mod_lt _ (by omega))
theorem ror_mask {n x : Nat} (hx : x < 4294967296) : (x / 2 ^ n ||| x * 2 ^ (32 - n)) &&& 4294967295 = ror n x := by
  have h1 : x / 2 ^ n < 4294967296 := Nat.lt_of_le_of_lt (Nat.div_le_self _ _) hx
  have h2 := Nat.or_mod_two_pow (a := x / 2 ^ n) (b := x * 2 ^ (32 - n)) (n := 32)
  have h3 : (2 : Nat) ^ 32 = 4294967296 := by decide
  rw [mask32]
  rw [h3, Nat.mod_eq_of_lt h1] at h2
  exact h2
def chs (e f g : Nat) : Nat := g ^^^ (e &&& (f ^^^ g))
def mjs (a b c : Nat) : Nat := (a &&& b) ||| (c &&& (a ||| b))
theorem chs_ref {e f g : Nat} (he : e < 4294967296) (hg : g < 4294967296) : (e &&& f) ||| ((4294967295 ^^^ e) &&& g) = chs e f g := by
  unfold chs
  apply Nat.eq_of_testBit_eq
  intro i
  have h1 : (4294967295 : Nat).testBit i = decide (i < 32) := Nat.testBit_two_pow_sub_one (n := 32) (i := i)
  simp only [Nat.testBit_or, Nat.testBit_and, Nat.testBit_xor, h1]
  by_cases hi : i < 32
  · cases e.testBit i <;> cases f.testBit i <;> cases g.testBit i <;> simp [hi]
  · have h2 : (2 : Nat) ^ 32 ≤ 2 ^ i := Nat.pow_le_pow_right (by omega) (by omega)
    have h3 : (2 : Nat) ^ 32 = 4294967296 := by decide
    have h4 : e.testBit i = false := Nat.testBit_lt_two_pow (by omega)
    have h5 : g.testBit i = false := Nat.testBit_lt_two_pow (by omega)
    simp [h4, h5]
theorem mjs_ref (a b c : Nat) : ((a &&& b) ||| (a &&& c)) ||| (b &&& c) = mjs a b c := by
  unfold mjs
  apply Nat.eq_of_testBit_eq
  intro i
  simp only [Nat.testBit_or, Nat.testBit_and]
  cases a.testBit i <;> cases b.testBit i <;> cases c.testBit i <;> rfl
theorem chs_lt {e f g : Nat} (he : e < 4294967296) (hg : g < 4294967296) : chs e f g < 4294967296 := xor32 hg (and32 he)
theorem mjs_lt {a b c : Nat} (ha : a < 4294967296) (hc : c < 4294967296) : mjs a b c < 4294967296 := or32 (and32 ha) (and32 hc)
def bs1 (e : Nat) : Nat := (ror 6 e ^^^ ror 11 e) ^^^ ror 25 e
def bs0 (a : Nat) : Nat := (ror 2 a ^^^ ror 13 a) ^^^ ror 22 a
def ss0 (x : Nat) : Nat := (ror 7 x ^^^ ror 18 x) ^^^ x / 8
def ss1 (x : Nat) : Nat := (ror 17 x ^^^ ror 19 x) ^^^ x / 1024
theorem bs1_lt {x : Nat} (h : x < 4294967296) : bs1 x < 4294967296 := xor32 (xor32 (ror_lt h) (ror_lt h)) (ror_lt h)
theorem bs0_lt {x : Nat} (h : x < 4294967296) : bs0 x < 4294967296 := xor32 (xor32 (ror_lt h) (ror_lt h)) (ror_lt h)
theorem ss0_lt {x : Nat} (h : x < 4294967296) : ss0 x < 4294967296 := xor32 (xor32 (ror_lt h) (ror_lt h)) (Nat.lt_of_le_of_lt (Nat.div_le_self _ _) h)
theorem ss1_lt {x : Nat} (h : x < 4294967296) : ss1 x < 4294967296 := xor32 (xor32 (ror_lt h) (ror_lt h)) (Nat.lt_of_le_of_lt (Nat.div_le_self _ _) h)
/-- the eight numbers that are mixed -/
structure St where
  a : Nat
  b : Nat
  c : Nat
  d : Nat
  e : Nat
  f : Nat
  g : Nat
  h : Nat
structure St.ok (s : St) : Prop where
  a : s.a < 4294967296
  b : s.b < 4294967296
  c : s.c < 4294967296
  d : s.d < 4294967296
  e : s.e < 4294967296
  f : s.f < 4294967296
  g : s.g < 4294967296
  h : s.h < 4294967296
def St.nats (s : St) : List Nat := [s.a, s.b, s.c, s.d, s.e, s.f, s.g, s.h]
def one (s : St) (x : Nat) : Nat := (s.h + bs1 s.e + chs s.e s.f s.g + x) % 4294967296
def two (s : St) : Nat := (bs0 s.a + mjs s.a s.b s.c) % 4294967296
def rnd (s : St) (x : Nat) : St := ⟨(one s x + two s) % 4294967296, s.a, s.b, s.c, (s.d + one s x) % 4294967296, s.e, s.f, s.g⟩
theorem one_lt (s : St) (x : Nat) : one s x < 4294967296 := Nat.mod_lt _ (by omega)
theorem two_lt (s : St) : two s < 4294967296 := Nat.mod_lt _ (by omega)
theorem rnd_ok {s : St} {x : Nat} (h : s.ok) : (rnd s x).ok := ⟨Nat.mod_lt _ (by omega), h.a, h.b, h.c, Nat.mod_lt _ (by omega), h.e, h.f, h.g⟩
def St.plus (s t : St) : St := ⟨(s.a + t.a) % 4294967296, (s.b + t.b) % 4294967296, (s.c + t.c) % 4294967296, (s.d + t.d) % 4294967296, (s.e + t.e) % 4294967296, (s.f + t.f) % 4294967296, (s.g + t.g) % 4294967296, (s.h + t.h) % 4294967296⟩
theorem St.plus_ok (s t : St) : (s.plus t).ok := by constructor <;> exact Nat.mod_lt _ (by omega)
/-- a number of four bytes -/
def num4 (l : List Int) : Nat := ((((l.getD 0 0).toNat * 256 + (l.getD 1 0).toNat) * 256 + (l.getD 2 0).toNat) * 256 + (l.getD 3 0).toNat)
/-- the words of a chunk -/
def wAt (b : List Int) (i : Nat) : Nat :=
  if i < 16 then num4 (b.drop (4 * i)) else (wAt b (i - 16) + ss0 (wAt b (i - 15)) + wAt b (i - 7) + ss1 (wAt b (i - 2))) % 4294967296
termination_by i
def Bytes (l : List Int) : Prop := ∀ x ∈ l, 0 ≤ x ∧ x < 256
theorem Bytes.getD {l : List Int} (h : Bytes l) (i : Nat) : (l.getD i 0).toNat < 256 := by
  rw [List.getD_eq_getElem?_getD]
  cases e : l[i]? with
  | none => simp
  | some x => have := h x (List.mem_of_getElem? e); simp only [Option.getD_some]; omega
theorem Bytes.drop {l : List Int} (h : Bytes l) (n : Nat) : Bytes (l.drop n) := fun x hx => h x (List.mem_of_mem_drop hx)
theorem Bytes.take {l : List Int} (h : Bytes l) (n : Nat) : Bytes (l.take n) := fun x hx => h x (List.mem_of_mem_take hx)
theorem num4_lt {l : List Int} (h : Bytes l) : num4 l < 4294967296 := by
  have h0 := h.getD 0
  have h1 := h.getD 1
  have h2 := h.getD 2
  have h3 := h.getD 3
  unfold num4
  omega
theorem wAt_lt {b : List Int} (h : Bytes b) (i : Nat) : wAt b i < 4294967296 := by
  unfold wAt
  split
  · exact num4_lt (h.drop _)
  · exact Nat.mod_lt _ (by omega)
theorem wAt_low (b : List Int) {i : Nat} (h : i < 16) : wAt b i = num4 (b.drop (4 * i)) := by
  unfold wAt; rw [if_pos h]
theorem wAt_high (b : List Int) {i : Nat} (h : ¬ i < 16) : wAt b i = (wAt b (i - 16) + ss0 (wAt b (i - 15)) + wAt b (i - 7) + ss1 (wAt b (i - 2))) % 4294967296 := by
  conv => lhs; unfold wAt
  rw [if_neg h]
/-- so many rounds -/
def mixed (K : List Nat) (b : List Int) (s : St) : Nat → St
  | 0 => s
  | i + 1 => rnd (mixed K b s i) ((K.getD i 0 + wAt b i) % 4294967296)
theorem mixed_ok {K : List Nat} {b : List Int} {s : St} (h : s.ok) : ∀ i, (mixed K b s i).ok
  | 0 => h
  | i + 1 => rnd_ok (mixed_ok h i)
theorem rnd_mod (s : St) (x : Nat) : rnd s (x % 4294967296) = rnd s x := by
  have : one s (x % 4294967296) = one s x := by unfold one; omega
  unfold rnd
  rw [this]
def mixSt (K : List Nat) (b : List Int) (s : St) : St := s.plus (mixed K b s 64)
/-- all chunks up to one -/
def mixAll (K : List Nat) (all : List Int) (s : St) : Nat → St
  | 0 => s
  | j + 1 => mixSt K (all.drop (64 * j)) (mixAll K all s j)
theorem mixAll_ok {K : List Nat} {all : List Int} {s : St} (h : s.ok) : ∀ j, (mixAll K all s j).ok
  | 0 => h
  | _ + 1 => St.plus_ok _ _
def begun : St := ⟨0x6a09e667, 0xbb67ae85, 0x3c6ef372, 0xa54ff53a, 0x510e527f, 0x9b05688c, 0x1f83d9ab, 0x5be0cd19⟩
theorem begun_ok : begun.ok := by constructor <;> decide
def kTab : List Nat := [
    0x428a2f98, 0x71374491, 0xb5c0fbcf, 0xe9b5dba5, 0x3956c25b, 0x59f111f1, 0x923f82a4, 0xab1c5ed5, 0xd807aa98, 0x12835b01, 0x243185be, 0x550c7dc3, 0x72be5d74, 0x80deb1fe, 0x9bdc06a7, 0xc19bf174,
    0xe49b69c1, 0xefbe4786, 0x0fc19dc6, 0x240ca1cc, 0x2de92c6f, 0x4a7484aa, 0x5cb0a9dc, 0x76f988da, 0x983e5152, 0xa831c66d, 0xb00327c8, 0xbf597fc7, 0xc6e00bf3, 0xd5a79147, 0x06ca6351, 0x14292967,
    0x27b70a85, 0x2e1b2138, 0x4d2c6dfc, 0x53380d13, 0x650a7354, 0x766a0abb, 0x81c2c92e, 0x92722c85, 0xa2bfe8a1, 0xa81a664b, 0xc24b8b70, 0xc76c51a3, 0xd192e819, 0xd6990624, 0xf40e3585, 0x106aa070,
    0x19a4c116, 0x1e376c08, 0x2748774c, 0x34b0bcb5, 0x391c0cb3, 0x4ed8aa4a, 0x5b9cca4f, 0x682e6ff3, 0x748f82ee, 0x78a5636f, 0x84c87814, 0x8cc70208, 0x90befffa, 0xa4506ceb, 0xbef9a3f7, 0xc67178f2]
theorem kTab_length : kTab.length = 64 := rfl
theorem kTab_lt (i : Nat) : kTab.getD i 0 < 4294967296 := by
  have h : ∀ x ∈ kTab, x < 4294967296 := by decide
  rw [List.getD_eq_getElem?_getD]
  cases e : kTab[i]? with
  | none => simp
  | some x => exact h x (List.mem_of_getElem? e)
/-- eight bytes of a number, the highest first -/
def wide8 (n : Nat) : List Int := (List.range 8).map fun i => ((n / 256 ^ (7 - i) % 256 : Nat) : Int)
def padN (n : Nat) : Nat := (n + 72) / 64 * 64
def padded (l : List Int) : List Int := l ++ 128 :: List.replicate (padN l.length - l.length - 9) 0 ++ wide8 (l.length * 8)
theorem wide8_length (n : Nat) : (wide8 n).length = 8 := by unfold wide8; rw [List.length_map, List.length_range]
theorem padN_le (n : Nat) : n + 9 ≤ padN n := by unfold padN; omega
theorem padded_length (l : List Int) : (padded l).length = padN l.length := by
  have := padN_le l.length
  unfold padded
  rw [List.length_append, List.length_append, List.length_cons, List.length_replicate, wide8_length]
  omega
theorem padded_bytes {l : List Int} (h : Bytes l) : Bytes (padded l) := by
  intro x hx
  unfold padded at hx
  rcases List.mem_append.1 hx with hx | hx
  · rcases List.mem_append.1 hx with hx | hx
    · exact h x hx
    · rcases List.mem_cons.1 hx with rfl | hx
      · omega
      · rw [List.eq_of_mem_replicate hx]; omega
  · unfold wide8 at hx
    obtain ⟨i, _, rfl⟩ := List.mem_map.1 hx
    omega
/-- the bytes of eight words -/
def bytes32 (s : St) : List Int := (List.range 32).map fun i => (((s.nats.getD (i / 4) 0) / 2 ^ (24 - 8 * (i % 4)) % 256 : Nat) : Int)
theorem bytes32_length (s : St) : (bytes32 s).length = 32 := by unfold bytes32; rw [List.length_map, List.length_range]
theorem bytes32_bytes (s : St) : Bytes (bytes32 s) := by
  intro x hx
  unfold bytes32 at hx
  obtain ⟨i, _, rfl⟩ := List.mem_map.1 hx
  omega
/-- SHA-256 -/
def sha (l : List Int) : List Int := bytes32 (mixAll kTab (padded l) begun (padN l.length / 64))
theorem sha_length (l : List Int) : (sha l).length = 32 := bytes32_length _
theorem sha_bytes (l : List Int) : Bytes (sha l) := bytes32_bytes _
end Gy
