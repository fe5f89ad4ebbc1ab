/- SHA-256 in plain numbers: no program in sight. -/
import Derived.Laws.BitsAllLaws
import Derived.RowKit
import GoSem.Claim
import Derived.Test.YtlmgikhgmbjfdaaDoorWWords
import Derived.Lib.SlBytesConst
import Derived.Test.YtlmgikhgmbjfdaaDoorWMore
import Derived.WalkKit
import Derived.Below
import Derived.Lib.Hide
import Derived.Deep.MidRow
import Derived.Laws.Cover3
import Derived.Laws.Tables
import Derived.Test.YtlmgikhgmbjfdaaDoorProg
import Derived.Deep.AppendLies
import Derived.RegionTactic
import Derived.Tactics
import Derived.Deep.Draws
import Derived.Maps.AppendAt
import Derived.OwnWalk
import Derived.Laws.BytesArg
import Derived.Laws.MakeOwn
import Derived.Laws.OwnMore
import Derived.Deep.OwnRows
import Derived.Lib.ConvBytes
import Derived.Laws.Slices
import Derived.KernelRfl
import Derived.RowKit3
import Derived.Deep.LoopGhost
import Derived.Deep.QuietTactic
import Derived.BigQuiet
import Derived.WideLaws
import Derived.Deep.DeepCutAuto
import Derived.Deep.CutBlock
import Derived.Deep.RegionHeld3
import Derived.Laws.Rows
import Derived.Lib.AppendStr
import Derived.ArgAppend
import Derived.Laws.IdiomCopy
import Derived.OrdersHeld
import Derived.Laws.BitsLemmas
import Derived.Test.YtlmgikhgmbjfdaaDoorWLast
import Derived.Test.YtlmgikhgmbjfdaaDoorWTab
import Derived.Test.YtlmgikhgmbjfdaaDoorWFour
import Derived.Test.YtlmgikhgmbjfdaaDoorWQPut
import Derived.Test.YtlmgikhgmbjfdaaDoorWApart
import Derived.Test.YtlmgikhgmbjfdaaDoorWArr
import Derived.Test.YtlmgikhgmbjfdaaDoorWZeros
import Derived.Test.YtlmgikhgmbjfdaaDoorWFoot
import Derived.Test.YtlmgikhgmbjfdaaDoorWKept
import Derived.Test.YtlmgikhgmbjfdaaDoorWShare
import Derived.Test.YtlmgikhgmbjfdaaDoorWN
import Derived.Test.YtlmgikhgmbjfdaaDoorWFootNe
import Derived.Test.YtlmgikhgmbjfdaaDoorWAt
import Derived.Test.YtlmgikhgmbjfdaaDoorWEqStruct
import Derived.Test.YtlmgikhgmbjfdaaDoorWRepsOne
import Derived.Test.YtlmgikhgmbjfdaaDoorWInv
import Derived.Test.YtlmgikhgmbjfdaaDoorWInvWords
import Derived.Test.YtlmgikhgmbjfdaaDoorWGuard
import Derived.Test.YtlmgikhgmbjfdaaDoorWNEv

namespace Gy
open Go

theorem or32 {a b : Nat} (ha : a < 4294967296) (hb : b < 4294967296) : a ||| b < 4294967296 := Nat.or_lt_two_pow (n := 32) ha hb
theorem and32 {a b : Nat} (ha : a < 4294967296) : a &&& b < 4294967296 := Nat.lt_of_le_of_lt Nat.and_le_left ha
theorem xor32 {a b : Nat} (ha : a < 4294967296) (hb : b < 4294967296) : a ^^^ b < 4294967296 := Nat.xor_lt_two_pow (n := 32) ha hb
theorem mask32 (a : Nat) : a &&& 4294967295 = a % 4294967296 := Nat.and_two_pow_sub_one_eq_mod a 32
/-- a word, so many to the right, around -/
def ror (n x : Nat) : Nat := x / 2 ^ n ||| x * 2 ^ (32 - n) % 4294967296
theorem ror_lt {n x : Nat} (hx : x < 4294967296) : ror n x < 4294967296 := or32 (Nat.lt_of_le_of_lt (Nat.div_le_self _ _) hx) (Nat.mod_lt _ (by omega))
theorem ror_mask {n x : Nat} (hx : x < 4294967296) : (x / 2 ^ n ||| x * 2 ^ (32 - n)) &&& 4294967295 = ror n x := by
  have h1 : x / 2 ^ n < 4294967296 := Nat.lt_of_le_of_lt (Nat.div_le_self _ _) hx
  have h2 := Nat.or_mod_two_pow (a := x / 2 ^ n) (b := x * 2 ^ (32 - n)) (n := 32)
  have h3 : (2 : Nat) ^ 32 = 4294967296 := by decide
  rw [mask32]
  rw [h3, Nat.mod_eq_of_lt h1] at h2
  exact h2
def chs (e f g : Nat) : Nat := g ^^^ (e &&& (f ^^^ g))
def mjs (a b c : Nat) : Nat := (a &&& b) ||| (c &&& (a ||| b))
theorem chs_ref {e f g : Nat} (he : e < 4294967296) (hg : g < 4294967296) : (e &&& f) ||| ((4294967295 ^^^ e) &&& g) = chs e f g := by
  unfold chs
  apply Nat.eq_of_testBit_eq
  intro i
  have h1 : (4294967295 : Nat).testBit i = decide (i < 32) := Nat.testBit_two_pow_sub_one (n := 32) (i := i)
  simp only [Nat.testBit_or, Nat.testBit_and, Nat.testBit_xor, h1]
  by_cases hi : i < 32
  · cases e.testBit i <;> cases f.testBit i <;> cases g.testBit i <;> simp [hi]
  · have h2 : (2 : Nat) ^ 32 ≤ 2 ^ i := Nat.pow_le_pow_right (by omega) (by omega)
    have h3 : (2 : Nat) ^ 32 = 4294967296 := by decide
    have h4 : e.testBit i = false := Nat.testBit_lt_two_pow (by omega)
    have h5 : g.testBit i = false := Nat.testBit_lt_two_pow (by omega)
    simp [h4, h5]
theorem mjs_ref (a b c : Nat) : ((a &&& b) ||| (a &&& c)) ||| (b &&& c) = mjs a b c := by
  unfold mjs
  apply Nat.eq_of_testBit_eq
  intro i
  simp only [Nat.testBit_or, Nat.testBit_and]
  cases a.testBit i <;> cases b.testBit i <;> cases c.testBit i <;> rfl
theorem chs_lt {e f g : Nat} (he : e < 4294967296) (hg : g < 4294967296) : chs e f g < 4294967296 := xor32 hg (and32 he)
theorem mjs_lt {a b c : Nat} (ha : a < 4294967296) (hc : c < 4294967296) : mjs a b c < 4294967296 := or32 (and32 ha) (and32 hc)
def bs1 (e : Nat) : Nat := (ror 6 e ^^^ ror 11 e) ^^^ ror 25 e
def bs0 (a : Nat) : Nat := (ror 2 a ^^^ ror 13 a) ^^^ ror 22 a
def ss0 (x : Nat) : Nat := (ror 7 x ^^^ ror 18 x) ^^^ x / 8
def ss1 (x : Nat) : Nat := (ror 17 x ^^^ ror 19 x) ^^^ x / 1024
theorem bs1_lt {x : Nat} (h : x < 4294967296) : bs1 x < 4294967296 := xor32 (xor32 (ror_lt h) (ror_lt h)) (ror_lt h)
theorem bs0_lt {x : Nat} (h : x < 4294967296) : bs0 x < 4294967296 := xor32 (xor32 (ror_lt h) (ror_lt h)) (ror_lt h)
theorem ss0_lt {x : Nat} (h : x < 4294967296) : ss0 x < 4294967296 := xor32 (xor32 (ror_lt h) (ror_lt h)) (Nat.lt_of_le_of_lt (Nat.div_le_self _ _) h)
theorem ss1_lt {x : Nat} (h : x < 4294967296) : ss1 x < 4294967296 := xor32 (xor32 (ror_lt h) (ror_lt h)) (Nat.lt_of_le_of_lt (Nat.div_le_self _ _) h)
/-- the eight numbers that are mixed -/
structure St where
  a : Nat
  b : Nat
  c : Nat
  d : Nat
  e : Nat
  f : Nat
  g : Nat
  h : Nat
structure St.ok (s : St) : Prop where
  a : s.a < 4294967296
  b : s.b < 4294967296
  c : s.c < 4294967296
  d : s.d < 4294967296
  e : s.e < 4294967296
  f : s.f < 4294967296
  g : s.g < 4294967296
  h : s.h < 4294967296
def St.nats (s : St) : List Nat := [s.a, s.b, s.c, s.d, s.e, s.f, s.g, s.h]
def one (s : St) (x : Nat) : Nat := (s.h + bs1 s.e + chs s.e s.f s.g + x) % 4294967296
def two (s : St) : Nat := (bs0 s.a + mjs s.a s.b s.c) % 4294967296
def rnd (s : St) (x : Nat) : St := ⟨(one s x + two s) % 4294967296, s.a, s.b, s.c, (s.d + one s x) % 4294967296, s.e, s.f, s.g⟩
theorem one_lt (s : St) (x : Nat) : one s x < 4294967296 := Nat.mod_lt _ (by omega)
theorem two_lt (s : St) : two s < 4294967296 := Nat.mod_lt _ (by omega)
theorem rnd_ok {s : St} {x : Nat} (h : s.ok) : (rnd s x).ok := ⟨Nat.mod_lt _ (by omega), h.a, h.b, h.c, Nat.mod_lt _ (by omega), h.e, h.f, h.g⟩
def St.plus (s t : St) : St := ⟨(s.a + t.a) % 4294967296, (s.b + t.b) % 4294967296, (s.c + t.c) % 4294967296, (s.d + t.d) % 4294967296, (s.e + t.e) % 4294967296, (s.f + t.f) % 4294967296, (s.g + t.g) % 4294967296, (s.h + t.h) % 4294967296⟩
theorem St.plus_ok (s t : St) : (s.plus t).ok := by constructor <;> exact Nat.mod_lt _ (by omega)
/-- a number of four bytes -/
def num4 (l : List Int) : Nat := ((((l.getD 0 0).toNat * 256 + (l.getD 1 0).toNat) * 256 + (l.getD 2 0).toNat) * 256 + (l.getD 3 0).toNat)
/-- the words of a chunk -/
def wAt (b : List Int) (i : Nat) : Nat :=
  if i < 16 then num4 (b.drop (4 * i)) else (wAt b (i - 16) + ss0 (wAt b (i - 15)) + wAt b (i - 7) + ss1 (wAt b (i - 2))) % 4294967296
termination_by i
def Bytes (l : List Int) : Prop := ∀ x ∈ l, 0 ≤ x ∧ x < 256
theorem Bytes.getD {l : List Int} (h : Bytes l) (i : Nat) : (l.getD i 0).toNat < 256 := by
  rw [List.getD_eq_getElem?_getD]
  cases e : l[i]? with
  | none => simp
  | some x => have := h x (List.mem_of_getElem? e); simp only [Option.getD_some]; omega
theorem Bytes.drop {l : List Int} (h : Bytes l) (n : Nat) : Bytes (l.drop n) := fun x hx => h x (List.mem_of_mem_drop hx)
theorem Bytes.take {l : List Int} (h : Bytes l) (n : Nat) : Bytes (l.take n) := fun x hx => h x (List.mem_of_mem_take hx)
theorem num4_lt {l : List Int} (h : Bytes l) : num4 l < 4294967296 := by
  have h0 := h.getD 0
  have h1 := h.getD 1
  have h2 := h.getD 2
  have h3 := h.getD 3
  unfold num4
  omega
theorem wAt_lt {b : List Int} (h : Bytes b) (i : Nat) : wAt b i < 4294967296 := by
  unfold wAt
  split
  · exact num4_lt (h.drop _)
  · exact Nat.mod_lt _ (by omega)
theorem wAt_low (b : List Int) {i : Nat} (h : i < 16) : wAt b i = num4 (b.drop (4 * i)) := by
  unfold wAt; rw [if_pos h]
theorem wAt_high (b : List Int) {i : Nat} (h : ¬ i < 16) : wAt b i = (wAt b (i - 16) + ss0 (wAt b (i - 15)) + wAt b (i - 7) + ss1 (wAt b (i - 2))) % 4294967296 := by
  conv => lhs; unfold wAt
  rw [if_neg h]
/-- so many rounds -/
def mixed (K : List Nat) (b : List Int) (s : St) : Nat → St
  | 0 => s
  | i + 1 => rnd (mixed K b s i) ((K.getD i 0 + wAt b i) % 4294967296)
theorem mixed_ok {K : List Nat} {b : List Int} {s : St} (h : s.ok) : ∀ i, (mixed K b s i).ok
  | 0 => h
  | i + 1 => rnd_ok (mixed_ok h i)
theorem rnd_mod (s : St) (x : Nat) : rnd s (x % 4294967296) = rnd s x := by
  have : one s (x % 4294967296) = one s x := by unfold one; omega
  unfold rnd
  rw [this]
def mixSt (K : List Nat) (b : List Int) (s : St) : St := s.plus (mixed K b s 64)
/-- all chunks up to one -/
def mixAll (K : List Nat) (all : List Int) (s : St) : Nat → St
  | 0 => s
  | j + 1 => mixSt K (all.drop (64 * j)) (mixAll K all s j)
theorem mixAll_ok {K : List Nat} {all : List Int} {s : St} (h : s.ok) : ∀ j, (mixAll K all s j).ok
  | 0 => h
  | _ + 1 => St.plus_ok _ _
def begun : St := ⟨0x6a09e667, 0xbb67ae85, 0x3c6ef372, 0xa54ff53a, 0x510e527f, 0x9b05688c, 0x1f83d9ab, 0x5be0cd19⟩
theorem begun_ok : begun.ok := by constructor <;> decide
def kTab : List Nat := [
    0x428a2f98, 0x71374491, 0xb5c0fbcf, 0xe9b5dba5, 0x3956c25b, 0x59f111f1, 0x923f82a4, 0xab1c5ed5, 0xd807aa98, 0x12835b01, 0x243185be, 0x550c7dc3, 0x72be5d74, 0x80deb1fe, 0x9bdc06a7, 0xc19bf174,
    0xe49b69c1, 0xefbe4786, 0x0fc19dc6, 0x240ca1cc, 0x2de92c6f, 0x4a7484aa, 0x5cb0a9dc, 0x76f988da, 0x983e5152, 0xa831c66d, 0xb00327c8, 0xbf597fc7, 0xc6e00bf3, 0xd5a79147, 0x06ca6351, 0x14292967,
    0x27b70a85, 0x2e1b2138, 0x4d2c6dfc, 0x53380d13, 0x650a7354, 0x766a0abb, 0x81c2c92e, 0x92722c85, 0xa2bfe8a1, 0xa81a664b, 0xc24b8b70, 0xc76c51a3, 0xd192e819, 0xd6990624, 0xf40e3585, 0x106aa070,
    0x19a4c116, 0x1e376c08, 0x2748774c, 0x34b0bcb5, 0x391c0cb3, 0x4ed8aa4a, 0x5b9cca4f, 0x682e6ff3, 0x748f82ee, 0x78a5636f, 0x84c87814, 0x8cc70208, 0x90befffa, 0xa4506ceb, 0xbef9a3f7, 0xc67178f2]
theorem kTab_length : kTab.length = 64 := rfl
theorem kTab_lt (i : Nat) : kTab.getD i 0 < 4294967296 := by
  have h : ∀ x ∈ kTab, x < 4294967296 := by decide
  rw [List.getD_eq_getElem?_getD]
  cases e : kTab[i]? with
  | none => simp
  | some x => exact h x (List.mem_of_getElem? e)
/-- eight bytes of a number, the highest first -/
def wide8 (n : Nat) : List Int := (List.range 8).map fun i => ((n / 256 ^ (7 - i) % 256 : Nat) : Int)
def padN (n : Nat) : Nat := (n + 72) / 64 * 64
def padded (l : List Int) : List Int := l ++ 128 :: List.replicate (padN l.length - l.length - 9) 0 ++ wide8 (l.length * 8)
theorem wide8_length (n : Nat) : (wide8 n).length = 8 := by unfold wide8; rw [List.length_map, List.length_range]
theorem padN_le (n : Nat) : n + 9 ≤ padN n := by unfold padN; omega
theorem padded_length (l : List Int) : (padded l).length = padN l.length := by
  have := padN_le l.length
  unfold padded
  rw [List.length_append, List.length_append, List.length_cons, List.length_replicate, wide8_length]
  omega
theorem padded_bytes {l : List Int} (h : Bytes l) : Bytes (padded l) := by
  intro x hx
  unfold padded at hx
  rcases List.mem_append.1 hx with hx | hx
  · rcases List.mem_append.1 hx with hx | hx
    · exact h x hx
    · rcases List.mem_cons.1 hx with rfl | hx
      · omega
      · rw [List.eq_of_mem_replicate hx]; omega
  · unfold wide8 at hx
    obtain ⟨i, _, rfl⟩ := List.mem_map.1 hx
    omega
/-- the bytes of eight words -/
def bytes32 (s : St) : List Int := (List.range 32).map fun i => (((s.nats.getD (i / 4) 0) / 2 ^ (24 - 8 * (i % 4)) % 256 : Nat) : Int)
theorem bytes32_length (s : St) : (bytes32 s).length = 32 := by unfold bytes32; rw [List.length_map, List.length_range]
theorem bytes32_bytes (s : St) : Bytes (bytes32 s) := by
  intro x hx
  unfold bytes32 at hx
  obtain ⟨i, _, rfl⟩ := List.mem_map.1 hx
  omega
/-- SHA-256 -/
def sha (l : List Int) : List Int := bytes32 (mixAll kTab (padded l) begun (padN l.length / 64))
theorem sha_length (l : List Int) : (sha l).length = 32 := bytes32_length _
theorem sha_bytes (l : List Int) : Bytes (sha l) := bytes32_bytes _
end Gy
/- Bit operations on int's numbers that are not negative: plain lemmas. -/
namespace Gy
open Go

theorem wrap64_id {n : Int} (h0 : -9223372036854775808 ≤ n) (h1 : n ≤ 9223372036854775807) : Go.RowKit.wrap64 n = n := by
  unfold Go.RowKit.wrap64; omega

theorem wrapI64 (n : Int) : IntKind.i64.wrap n = (n + 9223372036854775808) % 18446744073709551616 - 9223372036854775808 := by
  simp [IntKind.wrap, IntKind.bits, IntKind.signed]
  split <;> omega
theorem ofInt64 (a : Nat) (h : a < 9223372036854775808) : (BitVec.ofInt 64 (a : Int)).toNat = a := by
  rw [BitVec.ofInt_natCast, BitVec.toNat_ofNat]; exact Nat.mod_eq_of_lt (by omega)

theorem i64_xor (a b : Nat) (ha : a < 9223372036854775808) (hb : b < 9223372036854775808) : bits .xor .i64 (a : Int) (b : Int) = ((a ^^^ b : Nat) : Int) := by
  have hx : a ^^^ b < 2 ^ 63 := Nat.xor_lt_two_pow (by omega) (by omega)
  show IntKind.i64.wrap ((BitVec.ofInt 64 (a : Int) ^^^ BitVec.ofInt 64 (b : Int)).toNat : Int) = _
  rw [BitVec.toNat_xor, ofInt64 a ha, ofInt64 b hb, wrapI64]
  omega
theorem i64_and (a b : Nat) (ha : a < 9223372036854775808) (hb : b < 9223372036854775808) : bits .and .i64 (a : Int) (b : Int) = ((a &&& b : Nat) : Int) := by
  have hx : a &&& b < 2 ^ 63 := Nat.and_lt_two_pow _ (by omega)
  show IntKind.i64.wrap ((BitVec.ofInt 64 (a : Int) &&& BitVec.ofInt 64 (b : Int)).toNat : Int) = _
  rw [BitVec.toNat_and, ofInt64 a ha, ofInt64 b hb, wrapI64]
  omega
theorem i64_and1 (a : Nat) (ha : a < 9223372036854775808) : bits .and .i64 (a : Int) 1 = ((a % 2 : Nat) : Int) := by
  have h := i64_and a 1 ha (by omega)
  rw [Nat.and_one_is_mod] at h
  exact h
theorem u8_and1 (a : Nat) (ha : a < 256) : bits .and .u8 (a : Int) 1 = ((a % 2 : Nat) : Int) := by
  have h := u8_and_nat a 1 ha (by omega)
  rw [Nat.and_one_is_mod] at h
  exact h
theorem u64_wrap_id {n : Int} (h0 : 0 ≤ n) (h1 : n < 18446744073709551616) : IntKind.u64.wrap n = n := by
  have : IntKind.u64.wrap n = n % 18446744073709551616 := by simp [IntKind.wrap, IntKind.bits, IntKind.signed]
  rw [this]; omega
theorem wf_u8 {a : Int} (h : (Lit.int .u8 a).wf = true) : ∃ n : Nat, a = n ∧ n < 256 := by
  simp [Lit.wf, IntKind.min, IntKind.max, IntKind.signed, IntKind.bits] at h
  exact ⟨a.toNat, by omega, by omega⟩
theorem wf_u32 {a : Int} (h : (Lit.int .u32 a).wf = true) : ∃ n : Nat, a = n ∧ n < 4294967296 := by
  simp [Lit.wf, IntKind.min, IntKind.max, IntKind.signed, IntKind.bits] at h
  exact ⟨a.toNat, by omega, by omega⟩
theorem wf_u16 {a : Int} (h : (Lit.int .u16 a).wf = true) : ∃ n : Nat, a = n ∧ n < 65536 := by
  simp [Lit.wf, IntKind.min, IntKind.max, IntKind.signed, IntKind.bits] at h
  exact ⟨a.toNat, by omega, by omega⟩
theorem wf_i64 {a : Int} (h : (Lit.int .i64 a).wf = true) : -9223372036854775808 ≤ a ∧ a ≤ 9223372036854775807 := by
  simp [Lit.wf, IntKind.min, IntKind.max, IntKind.signed, IntKind.bits] at h
  omega
end Gy
/- CRCs on natural numbers: plain lemmas, no program in sight. -/
namespace Gy
open Go

def cstep (c : Nat) : Nat := if c % 2 = 1 then (c / 2) ^^^ 3988292384 else c / 2
def cturn : Nat → Nat → Nat
  | 0, c => c
  | n + 1, c => cturn n (cstep c)
def cbits : Nat → Nat → Nat → Nat
  | 0, _, c => c
  | n + 1, b, c => cbits n (b / 2) (cstep (c ^^^ b % 2))
def crcFold : Nat → List Int → Nat
  | c, [] => c
  | c, x :: l => crcFold (cturn 8 (c ^^^ x.toNat)) l
def crc (l : List Int) : Nat := crcFold 4294967295 l ^^^ 4294967295

theorem xor_lt32 {a b : Nat} (ha : a < 4294967296) (hb : b < 4294967296) : a ^^^ b < 4294967296 := Nat.xor_lt_two_pow (n := 32) ha hb
theorem cstep_lt {c : Nat} (h : c < 4294967296) : cstep c < 4294967296 := by
  unfold cstep; split
  · exact xor_lt32 (by omega) (by omega)
  · omega
theorem cturn_lt : ∀ (n c : Nat), c < 4294967296 → cturn n c < 4294967296 := by
  intro n
  induction n with
  | zero => intro c h; exact h
  | succ n ih => intro c h; exact ih _ (cstep_lt h)
theorem crcFold_lt : ∀ (l : List Int) (c : Nat), c < 4294967296 → (∀ x ∈ l, 0 ≤ x ∧ x < 256) → crcFold c l < 4294967296 := by
  intro l
  induction l with
  | nil => intro c h _; exact h
  | cons x l ih =>
    intro c h hx
    have := hx x (by simp)
    exact ih _ (cturn_lt 8 _ (xor_lt32 h (by omega))) (fun y hy => hx y (by simp [hy]))
theorem crc_lt (l : List Int) (h : ∀ x ∈ l, 0 ≤ x ∧ x < 256) : crc l < 4294967296 := xor_lt32 (crcFold_lt l _ (by omega) h) (by omega)
theorem xor_mod2 (a b : Nat) : (a ^^^ b) % 2 = (a % 2) ^^^ (b % 2) := by
  have := Nat.xor_mod_two_pow (a := a) (b := b) (n := 1)
  simpa using this
theorem xor_div2 (a b : Nat) : (a ^^^ b) / 2 = (a / 2) ^^^ (b / 2) := by
  have := Nat.xor_div_two_pow (a := a) (b := b) (n := 1)
  simpa using this
/-- what stands behind the last bit goes through a step -/
theorem cstep_split (c b : Nat) : cstep (c ^^^ b) = cstep (c ^^^ b % 2) ^^^ (b / 2) := by
  have h1 : (c ^^^ b) % 2 = (c ^^^ b % 2) % 2 := by rw [xor_mod2, xor_mod2 c (b % 2), Nat.mod_mod]
  have h2 : (c ^^^ b) / 2 = (c ^^^ b % 2) / 2 ^^^ (b / 2) := by
    rw [xor_div2, xor_div2 c (b % 2), show b % 2 / 2 = 0 from by omega, Nat.xor_zero]
  unfold cstep
  rw [h1, h2]
  split
  · ac_rfl
  · rfl
theorem cturn_bits : ∀ (n c b : Nat), b < 2 ^ n → cturn n (c ^^^ b) = cbits n b c := by
  intro n
  induction n with
  | zero =>
    intro c b h
    obtain rfl : b = 0 := by simp at h; omega
    exact Nat.xor_zero c
  | succ n ih =>
    intro c b h
    show cturn n (cstep (c ^^^ b)) = cbits n (b / 2) (cstep (c ^^^ b % 2))
    rw [cstep_split]
    exact ih _ _ (by rw [Nat.pow_succ] at h; omega)
theorem u8_range {x : Int} (h : (Lit.int .u8 x).wf = true) : 0 ≤ x ∧ x < 256 := by
  obtain ⟨n, rfl, hn⟩ := wf_u8 h
  omega
end Gy
/- Small facts about memory for the walks of this claim. -/
namespace Gy
open Go Go.RowKit Go.Proofs.YtlmgikhgmbjfdaaDoorW.PrintWords

/-- a fact that the walk does not look at -/
structure Hd (p : Prop) : Prop where
  out : p
theorem ret_eq {k : IntKind} {a b : Int} (h : a = b) : Ending.returned (.int k a) = .returned (.int k b) := by rw [h]
theorem addr_add (b j : Nat) : (⟨b, 0, none⟩ : Addr).add j = ⟨b, j, none⟩ := by
  unfold Addr.add; split <;> simp_all

/-- A row of numbers that has just been laid reads as these. -/
theorem lit_reads (k : IntKind) (w : World) (xs : List Int) (e : TypeId) (f : Nat × Nat) (hl : xs.length ≤ 9223372036854775807) (C : Array Value) (hC : C = (xs.map (Value.int k)).toArray) :
    Kd.C (Kd.int k) (w.alloc (.cells C e f)) (some ⟨w.heap.size, 0, none⟩) xs.length xs := by
  subst hC
  refine Kd.C_of_reads (d := (0 : Int)) ⟨rfl, hl, fun _ => ⟨_, rfl, fun j hj => ?_⟩⟩
  rw [addr_add]
  have e1 : (w.alloc (Obj.cells (xs.map (Value.int k)).toArray e f)).heap[w.heap.size]? = some (Obj.cells (xs.map (Value.int k)).toArray e f) := by
    show (w.heap.push _)[w.heap.size]? = _
    simp
  unfold World.cell?
  simp only [e1]
  simp [hj, List.getD_eq_getElem?_getD]
theorem set_set (w : World) (blk off : Nat) (v v' : Value) : (w.setCell ⟨blk, off, none⟩ v).setCell ⟨blk, off, none⟩ v' = w.setCell ⟨blk, off, none⟩ v' := by
  unfold World.setCell
  congr 1
  apply Array.ext
  · simp
  · intro i h1 h2
    simp only [Array.getElem_modify]
    by_cases h : blk = i
    · simp only [h, if_true]
      cases w.heap[i]'(by simpa using h1) <;> simp
    · simp only [h, if_false]
/-- A cell that was there reads as what was stored last. -/
theorem cell_set {w : World} {a : Addr} {u : Value} (h : w.cell? a = some u) (v : Value) : (w.setCell a v).cell? a = some v := World.cell?_setCell_same' w a v (by rw [h]; rfl)
/-- The same but for how many answers were drawn. -/
def Sm (w' w : World) : Prop := w'.heap = w.heap ∧ w'.tape = w.tape ∧ w'.os = w.os ∧ w'.output = w.output
theorem Sm.refl (w : World) : Sm w w := ⟨rfl, rfl, rfl, rfl⟩
theorem Sm.cell {w' w : World} (h : Sm w' w) (a : Addr) : w'.cell? a = w.cell? a := by unfold World.cell?; rw [h.1]
theorem Sm.frozen {w' w : World} (h : Sm w' w) (a : Addr) : w'.frozen? a = w.frozen? a := by unfold World.frozen?; rw [h.1]
theorem Sm.below {w' w w0 : World} {B : Nat} (h : Sm w' w) (hb : Below B w0 w) : Below B w0 w' :=
  ⟨h.2.2.1.trans hb.os, h.2.1.trans hb.tape, h.2.2.2.trans hb.output, by rw [h.1]; exact hb.size, fun k hk => by rw [h.1]; exact hb.block k hk⟩
end Gy
/- Rows in memory: small facts for walks. -/
namespace Gy
open Go Go.RowKit Go.Proofs.YtlmgikhgmbjfdaaDoorW.PrintWords Go.Proofs.YtlmgikhgmbjfdaaDoorW.PrintMore

theorem drew_below (w : World) : Below w.heap.size w w.drew := pw_below_drewN (Below.refl _ _) 1
theorem alloc_below (w : World) (o : Obj) : Below w.heap.size w (w.alloc o) := (Below.refl _ _).alloc (Nat.le_refl _) o
theorem reads_below {w w' : World} {k : IntKind} {A : Option Addr} {n : Nat} {xs : List Int} (h : ReadsInt w k A n xs) (hb : Below w.heap.size w w') : ReadsInt w' k A n xs := by
  refine ⟨h.1, h.2.1, fun hn => ?_⟩
  obtain ⟨ad, e, hc⟩ := h.2.2 hn
  refine ⟨ad, e, fun j hj => ?_⟩
  have h1 := hc j hj
  have hlt : (ad.add j).block < w.heap.size := by
    rcases Nat.lt_or_ge (ad.add j).block w.heap.size with h' | h'
    · exact h'
    · simp [World.cell?, Array.getElem?_eq_none h'] at h1
  rw [hb.cell hlt]; exact h1
theorem own_some {w : World} {base : Nat} {e : TypeId} {n : Nat} {v : Value} {xs : List Value} (h : w.ownsRow base e 1 v n xs) (hn : 0 < n) : ∃ g c, v = .slice (some ⟨g, 0, none⟩) n c := by
  rcases h.2 with ⟨_, h0⟩ | ⟨g, c, _, rfl, _⟩
  · omega
  · exact ⟨g, c, rfl⟩
theorem own_reads {w : World} {base : Nat} {e : TypeId} {k : IntKind} {A : Option Addr} {n c : Nat} {xs : List Int} (h : w.ownsRow base e 1 (.slice A n c) xs.length (nums k xs)) (hn : n = xs.length) (hl : xs.length ≤ 9223372036854775807) : ReadsInt w k A n xs := by
  subst hn
  refine ⟨rfl, hl, fun h0 => ?_⟩
  obtain ⟨g, c', e1⟩ := own_some h h0
  injection e1 with e1 e2 e3
  subst e1 e3
  refine ⟨_, rfl, fun j hj => ?_⟩
  rw [Gy.addr_add, h.cellAt j (by omega)]
  simp [nums, List.getD_eq_getElem?_getD, hj]
theorem reads_of_kd {w : World} {k : IntKind} {A : Option Addr} {n : Nat} {xs : List Int} (h : (Kd.int k).C w A n xs) : ReadsInt w k A n xs := by
  refine ⟨h.1, h.2.1, fun hn => ?_⟩
  obtain ⟨ad, e, hx⟩ := h.2.2 hn
  refine ⟨ad, e, fun j hj => ?_⟩
  have hj' : j < xs.length := by rw [h.1]; exact hj
  obtain ⟨cs, _, hk, hc⟩ := hx j xs[j] (List.getElem?_eq_getElem hj')
  have hk' : cs = [.int k xs[j]] := hk
  subst hk'
  have := hc 0 _ rfl
  have e1 : j * (Kd.int k).sz + 0 = j := by show j * 1 + 0 = j; omega
  rw [e1] at this
  rw [this]
  simp [List.getD_eq_getElem?_getD, hj']
theorem cell_lt {w : World} {b o : Nat} {v : Value} (h : w.cell? ⟨b, o, none⟩ = some v) : b < w.heap.size := by
  rcases Nat.lt_or_ge b w.heap.size with h' | h'
  · exact h'
  · simp [World.cell?, Array.getElem?_eq_none h'] at h
theorem set_size (w : World) (a : Addr) (v : Value) : (w.setCell a v).heap.size = w.heap.size := by
  show (w.heap.modify _ _).size = _; simp
theorem set_other (w : World) (b o o' : Nat) (v : Value) (h : o ≠ o') : (w.setCell ⟨b, o, none⟩ v).cell? ⟨b, o', none⟩ = w.cell? ⟨b, o', none⟩ :=
  World.cell?_setCell_other w ⟨b, o, none⟩ ⟨b, o', none⟩ v (by intro e; injection e with _ e; exact h e)
theorem set_frozen (w : World) (b o o' : Nat) (v : Value) : (w.setCell ⟨b, o, none⟩ v).frozen? ⟨b, o', none⟩ = w.frozen? ⟨b, o', none⟩ := by go_simp
theorem alloc_at (w : World) (o : Obj) : (w.alloc o).heap[w.heap.size]? = some o := by
  show (w.heap.push _)[w.heap.size]? = _
  simp
/-- the first of a row that has just been laid is stored: what then is read -/
theorem made_first (w : World) (e : TypeId) (n : Nat) (x : Int) (hn : n + 1 ≤ 9223372036854775807) :
    ReadsInt ((w.alloc (.cells (madeCells #[.int .u8 0] (n + 1)) e)).setCell ⟨w.heap.size, 0, none⟩ (.int .u8 x)) .u8 (some ⟨w.heap.size, 0, none⟩) (n + 1) (x :: List.replicate n 0) := by
  have h := own_made w w.heap.size e .u8 (n + 1) (Nat.le_refl _) hn
  have h2 := (h.stored 0 (.int .u8 x)).1
  have e2 : (nums .u8 (List.replicate (n + 1) (0 : Int))).set 0 (.int .u8 x) = nums .u8 (x :: List.replicate n 0) := by
    simp [nums, List.replicate_succ]
  rw [e2] at h2
  have hl : (x :: List.replicate n (0 : Int)).length = n + 1 := by simp
  rw [show n + 1 = (x :: List.replicate n (0 : Int)).length from hl.symm] at h2
  have h3 := own_reads h2 rfl (by rw [hl]; exact hn)
  rw [hl] at h3
  exact h3
theorem made_reads (w : World) (e : TypeId) (n : Nat) (hn : n ≤ 9223372036854775807) :
    ReadsInt (w.alloc (.cells (madeCells #[.int .u8 0] n) e)) .u8 (some ⟨w.heap.size, 0, none⟩) n (List.replicate n 0) := by
  have h := own_made w w.heap.size e .u8 n (Nat.le_refl _) hn
  have hl : (List.replicate n (0 : Int)).length = n := by simp
  have h2 : (w.alloc (.cells (madeCells #[.int .u8 0] n) e)).ownsRow w.heap.size e 1 (.slice (some ⟨w.heap.size, 0, none⟩) n n) (List.replicate n (0 : Int)).length (nums .u8 (List.replicate n 0)) := by rw [hl]; exact h
  have h3 := own_reads h2 hl.symm (by rw [hl]; exact hn)
  exact h3
set_option maxRecDepth 100000 in
/-- b[i:i+m] -/
theorem mid_at {P : Program} (t e : TypeId) (ht : P.underlying t = some (.slice e)) (hu : (P.info? e).map (fun i => (i.zero, i.size, i.bytes)) = some (some (.int .u8 0), 1, 1)) (A : Option Addr) (c : Nat) (xs : List Int) (i m : Nat) (hm : i + m ≤ xs.length) (hc : xs.length ≤ c) :
    ∃ A' : Option Addr, (∀ W : World, (Instr.slice t (.slice A xs.length c) (some (.int .i64 (i : Int))) (some (.int .i64 ((i : Int) + (m : Int)))) none).run P W = .ok (.slice A' m (c - i)) W) ∧
      ∀ w : World, ReadsInt w .u8 A xs.length xs → ReadsInt w .u8 A' m ((xs.drop i).take m) := by
  obtain ⟨i0, hi, hzz⟩ := Option.map_eq_some_iff.1 hu
  simp only [Prod.mk.injEq] at hzz
  obtain ⟨hz0, hz1, hz2⟩ := hzz
  obtain ⟨A', h1, h2, h3⟩ := print_mid_int (P := P) (k := .u8) t e ht hi hz1 A c xs (i : Int) ((i : Int) + (m : Int)) (by omega) (by omega) (by omega) hc
  have e1 : ((i : Int) + (m : Int)).toNat = i + m := by omega
  have e2 : (List.drop i (List.take (i + m) xs)) = (xs.drop i).take m := by rw [List.drop_take]; congr 1; omega
  have e3 : ((xs.drop i).take m).length = m := by simp; omega
  rw [e1, Int.toNat_natCast, e2, e3] at h1 h2
  exact ⟨A', h1, h2⟩
end Gy
/- Arrays in memory: facts for walks. -/
namespace Gy
open Go Go.RowKit Go.Proofs.YtlmgikhgmbjfdaaDoorW.PrintWords Go.Proofs.YtlmgikhgmbjfdaaDoorW.PrintMore

/-- cells lie in a block of their own, and may be written -/
structure Arr (w : World) (b : Nat) (vs : List Value) : Prop where
  lt : b < w.heap.size
  at_ : w.rangeAt b 0 vs
  fr : ∀ o, w.frozen? ⟨b, o, none⟩ = false
theorem Arr.cell {w : World} {b : Nat} {vs : List Value} (h : Arr w b vs) {i : Nat} {v : Value} (hv : vs[i]? = some v) : w.cell? ⟨b, i, none⟩ = some v := by
  have h1 := h.at_ i v hv
  rw [Nat.zero_add] at h1
  exact h1
theorem Arr.of_block {w w' : World} {b : Nat} {vs : List Value} (h : Arr w b vs) (e : w'.heap[b]? = w.heap[b]?) (hl : b < w'.heap.size) : Arr w' b vs := by
  refine ⟨hl, fun j v hv => ?_, fun o => ?_⟩
  · have := h.at_ j v hv
    unfold World.cell? at this ⊢
    rw [e]; exact this
  · have := h.fr o
    unfold World.frozen? at this ⊢
    rw [e]; exact this
theorem Arr.below {w w' : World} {b : Nat} {vs : List Value} (h : Arr w b vs) (hb : Below w.heap.size w w') : Arr w' b vs :=
  h.of_block (hb.block b h.lt) (Nat.lt_of_lt_of_le h.lt hb.size)
theorem Arr.drewN {w : World} {b : Nat} {vs : List Value} (h : Arr w b vs) (n : Nat) : Arr (w.drewN n) b vs := h.below (pw_below_drewN (Below.refl _ _) n)
theorem Arr.drew {w : World} {b : Nat} {vs : List Value} (h : Arr w b vs) : Arr w.drew b vs := h.drewN 1
theorem Arr.alloc {w : World} {b : Nat} {vs : List Value} (h : Arr w b vs) (o : Obj) : Arr (w.alloc o) b vs := h.below (Gy.alloc_below w o)
theorem Arr.far {w : World} {b : Nat} {vs : List Value} (h : Arr w b vs) {b' : Nat} (hb : b' ≠ b) (o : Nat) (v : Value) : Arr (w.setCell ⟨b', o, none⟩ v) b vs :=
  h.of_block (Below.heap_setCell w _ _ _ (fun e => hb e.symm)) (by rw [Gy.set_size]; exact h.lt)
theorem Arr.set {w : World} {b : Nat} {vs : List Value} (h : Arr w b vs) {i : Nat} (hi : i < vs.length) (v : Value) : Arr (w.setCell ⟨b, i, none⟩ v) b (vs.set i v) := by
  refine ⟨by rw [Gy.set_size]; exact h.lt, fun j u hu => ?_, fun o => by rw [Gy.set_frozen]; exact h.fr o⟩
  rw [Nat.zero_add]
  rw [List.getElem?_set] at hu
  by_cases e : i = j
  · subst e
    rw [if_pos rfl, if_pos hi] at hu
    injection hu with hu
    subst hu
    exact Gy.cell_set (h.cell (List.getElem?_eq_getElem hi)) _
  · rw [if_neg e] at hu
    rw [Gy.set_other _ _ _ _ _ e]
    exact h.cell hu
theorem Arr.fresh (w : World) (vs : List Value) (C : Array Value) (hC : C = vs.toArray) (t : TypeId) : Arr (w.alloc (.cells C t)) w.heap.size vs := by
  subst hC
  have h := Gy.alloc_at w (.cells vs.toArray t)
  refine ⟨by show _ < (w.heap.push _).size; simp, fun j v hv => ?_, fun o => ?_⟩
  · unfold World.cell?
    simp only [h, Nat.zero_add]
    rw [← hv]
    exact List.getElem?_toArray
  · unfold World.frozen?
    simp only [h]
    simp
theorem Arr.of_cells {w : World} {b : Nat} {vs : List Value} {t : TypeId} (h : w.heap[b]? = some (.cells vs.toArray t (0, 0))) : Arr w b vs := by
  refine ⟨?_, fun j v hv => ?_, fun o => ?_⟩
  · rcases Nat.lt_or_ge b w.heap.size with h' | h'
    · exact h'
    · rw [Array.getElem?_eq_none h'] at h; cases h
  · unfold World.cell?
    simp only [h, Nat.zero_add]
    rw [← hv]
    exact List.getElem?_toArray
  · unfold World.frozen?
    simp only [h]
    simp
theorem Arr.there {w : World} {b : Nat} {vs : List Value} (h : Arr w b vs) : w.there b 0 vs.length := fun j hj => by
  rw [Nat.zero_add]
  exact ⟨by rw [h.cell (List.getElem?_eq_getElem hj)]; rfl, h.fr j⟩
theorem Arr.load {P : Program} {w : World} {b : Nat} {vs : List Value} (h : Arr w b vs) {t : TypeId} {d : TypeDesc} (hu : P.underlying t = some d) (hd : d.isRow = true) (hi : (P.info? t).map (·.size) = some vs.length) :
    (Instr.loadAt t (.pointer (some ⟨b, 0, none⟩))).run P w = .ok (.agg vs.toArray) w := run_loadAt_mid w b 0 t vs d h.at_ hu hd hi
theorem Arr.loadV {P : Program} {w : World} {b : Nat} {vs : List Value} (h : Arr w b vs) {t : TypeId} {d : TypeDesc} (hu : P.underlying t = some d) (hd : d.isRow = true) (hi : (P.info? t).map (·.size) = some vs.length) :
    (loadVar t ⟨b, 0, none⟩).run P w = .ok (.agg vs.toArray) w := run_loadVar_mid w b 0 t vs d h.at_ hu hd hi
theorem Arr.store {P : Program} {w : World} {b : Nat} {vs us : List Value} (h : Arr w b vs) (hl : us.length = vs.length) {t : TypeId} (hi : (P.info? t).map (·.size) = some us.length) (h1 : ∀ v ∈ us, v.oneCell' = true) :
    (Instr.storeAt t (.pointer (some ⟨b, 0, none⟩)) (.agg us.toArray)).run P w = .ok () (w.setCells b 0 us) :=
  run_storeAt_mid w b 0 t us.toArray (by rw [List.size_toArray, hl]; exact h.there) (by rw [List.size_toArray]; exact hi) (all_oneCell_toArray h1)
theorem Arr.storeC {P : Program} {w : World} {b : Nat} {vs us : List Value} (h : Arr w b vs) (hl : us.length = vs.length) (h1 : ∀ v ∈ us, v.oneCell' = true) :
    (storeCells ⟨b, 0, none⟩ us).run P w = .ok () (w.setCells b 0 us) := by
  have ht : w.there b 0 us.length := by rw [hl]; exact h.there
  exact run_storeCells_cells (P := P) b 0 us 0 w (fun j hj => by simpa using (ht j hj).1) (fun j hj => by simpa using (ht j hj).2) h1
theorem Arr.there2 {w : World} {b : Nat} {vs : List Value} (h : Arr w b vs) (us : List Value) (hl : us.length = vs.length) : w.there b 0 us.toArray.size := by rw [List.size_toArray, hl]; exact h.there
theorem Arr.put {w : World} {b : Nat} {vs : List Value} (h : Arr w b vs) (us : List Value) (hl : us.length = vs.length) : Arr (w.setCells b 0 us) b us := by
  refine ⟨?_, World.rangeAt_setCells_same w b 0 us (by rw [hl]; exact h.there), fun o => by rw [World.frozen?_setCells]; exact h.fr o⟩
  have : ∀ (us : List Value) (o : Nat) (w : World), (w.setCells b o us).heap.size = w.heap.size := by
    intro us
    induction us with
    | nil => intro o w; rfl
    | cons v r ih => intro o w; exact (ih (o + 1) _).trans (Gy.set_size _ _ _)
  rw [this]; exact h.lt
theorem setCells_block {b b' : Nat} (hb : b' ≠ b) : ∀ (us : List Value) (o : Nat) (w : World), (w.setCells b' o us).heap[b]? = w.heap[b]?
  | [], _, _ => rfl
  | _ :: r, o, w => (setCells_block hb r (o + 1) _).trans (Below.heap_setCell w _ _ _ (fun e => hb e.symm))
theorem setCells_size {b' : Nat} : ∀ (us : List Value) (o : Nat) (w : World), (w.setCells b' o us).heap.size = w.heap.size
  | [], _, _ => rfl
  | _ :: r, o, _ => (setCells_size r (o + 1) _).trans (Gy.set_size _ _ _)
theorem setCells_below {B b : Nat} {a : World} (hb : B ≤ b) : ∀ (vs : List Value) (o : Nat) {w : World}, Below B a w → Below B a (w.setCells b o vs)
  | [], _, _, h => h
  | v :: r, o, _, h => setCells_below hb r (o + 1) (h.setCell (show B ≤ (⟨b, o, none⟩ : Addr).block from hb) v)
theorem Arr.far_cells {w : World} {b : Nat} {vs : List Value} (h : Arr w b vs) {b' : Nat} (hb : b' ≠ b) (o : Nat) (us : List Value) : Arr (w.setCells b' o us) b vs :=
  h.of_block (setCells_block hb us o w) (by rw [setCells_size]; exact h.lt)
theorem Arr.reads {w : World} {b : Nat} {k : IntKind} {xs : List Int} (h : Arr w b (nums k xs)) (hl : xs.length ≤ 9223372036854775807) : ReadsInt w k (some ⟨b, 0, none⟩) xs.length xs := by
  refine ⟨rfl, hl, fun _ => ⟨_, rfl, fun j hj => ?_⟩⟩
  rw [Gy.addr_add]
  refine h.cell ?_
  simp [nums, List.getD_eq_getElem?_getD, hj]
theorem size_alloc' (w : World) (o : Obj) : (w.alloc o).heap.size = w.heap.size + 1 := by
  show (w.heap.push o).size = _
  simp
theorem nums_one (k : IntKind) (xs : List Int) : ∀ v ∈ nums k xs, v.oneCell' = true := by
  intro v hv
  unfold nums at hv
  obtain ⟨x, _, rfl⟩ := List.mem_map.1 hv
  rfl
theorem nums_len (k : IntKind) (xs : List Int) : (nums k xs).length = xs.length := List.length_map _
theorem nums_set (k : IntKind) (xs : List Int) (i : Nat) (x : Int) : (nums k xs).set i (.int k x) = nums k (xs.set i x) := by unfold nums; rw [List.map_set]
theorem nums_getD {k : IntKind} {xs : List Int} {i : Nat} (h : i < xs.length) : (nums k xs)[i]? = some (.int k (xs.getD i 0)) := by
  unfold nums
  rw [List.getElem?_map, List.getElem?_eq_getElem h, List.getD_eq_getElem?_getD, List.getElem?_eq_getElem h]
  rfl
end Gy
/- Files cut into slices: the plain words. -/
namespace Gy
open Go Go.Proofs Go.RowKit Go.Proofs.YtlmgikhgmbjfdaaDoorW.PrintWords Go.Proofs.YtlmgikhgmbjfdaaDoorW.PrintMore

/-- a file's cells -/
def fileL (nm : ByteArray) (sz : Int) (D : List Int) (first : Int) : List Value := .string nm :: .int .i64 sz :: (nums .u8 D ++ [.int .i64 first])
/-- a slice's cells -/
def sliceL (sz crc : Int) (D : List Int) : List Value := .int .i64 sz :: .int .u32 crc :: nums .u8 D
structure Inp where
  name : ByteArray
  b : List Int
structure FileR where
  name : ByteArray
  size : Int
  dig : List Int
  first : Int
structure SliceR where
  size : Int
  crc : Int
  dig : List Int
def FileR.cells (f : FileR) : List Value := fileL f.name f.size f.dig f.first
def SliceR.cells (x : SliceR) : List Value := sliceL x.size x.crc x.dig
def chunksF (s : Nat) : Nat → List Int → List (List Int)
  | 0, _ => []
  | f + 1, b => if b.length = 0 then [] else b.take s :: chunksF s f (b.drop s)
def chunks (s : Nat) (b : List Int) : List (List Int) := chunksF s b.length b
theorem chunksF_any (s : Nat) (hs : 0 < s) : ∀ (f f' : Nat) (b : List Int), b.length ≤ f → b.length ≤ f' → chunksF s f b = chunksF s f' b := by
  intro f
  induction f with
  | zero =>
    intro f' b h _
    obtain rfl : b = [] := List.eq_nil_of_length_eq_zero (by omega)
    cases f' <;> rfl
  | succ f ih =>
    intro f' b h h'
    cases f' with
    | zero => obtain rfl : b = [] := List.eq_nil_of_length_eq_zero (by omega); rfl
    | succ f' =>
      unfold chunksF
      by_cases h0 : b.length = 0
      · rw [if_pos h0, if_pos h0]
      · rw [if_neg h0, if_neg h0, ih f' (b.drop s) (by rw [List.length_drop]; omega) (by rw [List.length_drop]; omega)]
theorem chunks_nil (s : Nat) : chunks s [] = [] := rfl
theorem chunks_step {s : Nat} (hs : 0 < s) {b : List Int} (hb : 0 < b.length) : chunks s b = b.take s :: chunks s (b.drop s) := by
  unfold chunks
  obtain ⟨n, hn⟩ : ∃ n, b.length = n + 1 := ⟨b.length - 1, by omega⟩
  rw [hn]
  show (if b.length = 0 then [] else b.take s :: chunksF s n (b.drop s)) = _
  rw [if_neg (by omega), chunksF_any s hs n (b.drop s).length (b.drop s) (by rw [List.length_drop]; omega) (Nat.le_refl _)]
theorem chunks_flat {s : Nat} (hs : 0 < s) : ∀ (n : Nat) (b : List Int), b.length ≤ n → (chunks s b).flatten = b := by
  intro n
  induction n with
  | zero => intro b h; obtain rfl : b = [] := List.eq_nil_of_length_eq_zero (by omega); rfl
  | succ n ih =>
    intro b h
    by_cases h0 : b.length = 0
    · obtain rfl : b = [] := List.eq_nil_of_length_eq_zero h0; rfl
    · rw [chunks_step hs (by omega), List.flatten_cons, ih _ (by rw [List.length_drop]; omega), List.take_append_drop]
theorem chunks_length_le {s : Nat} (hs : 0 < s) : ∀ (n : Nat) (b : List Int), b.length ≤ n → (chunks s b).length ≤ b.length := by
  intro n
  induction n with
  | zero => intro b h; obtain rfl : b = [] := List.eq_nil_of_length_eq_zero (by omega); exact Nat.le_refl _
  | succ n ih =>
    intro b h
    by_cases h0 : b.length = 0
    · obtain rfl : b = [] := List.eq_nil_of_length_eq_zero h0; exact Nat.le_refl _
    · have h1 := ih (b.drop s) (by rw [List.length_drop]; omega)
      rw [List.length_drop] at h1
      rw [chunks_step hs (by omega), List.length_cons]
      omega
def sliceOf (c : List Int) : SliceR := ⟨c.length, (crc c : Nat), sha c⟩
/-- what has been made of files -/
structure Cut where
  files : List FileR
  slices : List SliceR
  src : List (List Int)
def Cut.addF (st : Cut) (x : Inp) : Cut := ⟨st.files ++ [⟨x.name, x.b.length, sha x.b, st.src.length⟩], st.slices, st.src⟩
def Cut.addC (st : Cut) (c : List Int) : Cut := ⟨st.files, st.slices ++ [sliceOf c], st.src ++ [c]⟩
def Cut.addCs (st : Cut) (l : List (List Int)) : Cut := l.foldl Cut.addC st
def Cut.addAll (s : Nat) (st : Cut) (l : List Inp) : Cut := l.foldl (fun st x => (st.addF x).addCs (chunks s x.b)) st
def cutOf (s : Nat) (l : List Inp) : Cut := Cut.addAll s ⟨[], [], []⟩ l
theorem Cut.addCs_step {s : Nat} (hs : 0 < s) (st : Cut) {b : List Int} (hb : 0 < b.length) : st.addCs (chunks s b) = (st.addC (b.take s)).addCs (chunks s (b.drop s)) := by rw [chunks_step hs hb]; rfl
theorem Cut.addCs_form : ∀ (l : List (List Int)) (st : Cut), st.addCs l = ⟨st.files, st.slices ++ l.map sliceOf, st.src ++ l⟩
  | [], st => by simp [Cut.addCs]
  | c :: l, st => by
    show (st.addC c).addCs l = _
    rw [Cut.addCs_form l (st.addC c)]
    simp [Cut.addC]
theorem list32 (D : List Int) (h : D.length = 32) : ∃ d0 d1 d2 d3 d4 d5 d6 d7 d8 d9 d10 d11 d12 d13 d14 d15 d16 d17 d18 d19 d20 d21 d22 d23 d24 d25 d26 d27 d28 d29 d30 d31 : Int, D = [d0, d1, d2, d3, d4, d5, d6, d7, d8, d9, d10, d11, d12, d13, d14, d15, d16, d17, d18, d19, d20, d21, d22, d23, d24, d25, d26, d27, d28, d29, d30, d31] := by
  obtain _ | ⟨d0, D⟩ := D
  · simp at h
  obtain _ | ⟨d1, D⟩ := D
  · simp at h
  obtain _ | ⟨d2, D⟩ := D
  · simp at h
  obtain _ | ⟨d3, D⟩ := D
  · simp at h
  obtain _ | ⟨d4, D⟩ := D
  · simp at h
  obtain _ | ⟨d5, D⟩ := D
  · simp at h
  obtain _ | ⟨d6, D⟩ := D
  · simp at h
  obtain _ | ⟨d7, D⟩ := D
  · simp at h
  obtain _ | ⟨d8, D⟩ := D
  · simp at h
  obtain _ | ⟨d9, D⟩ := D
  · simp at h
  obtain _ | ⟨d10, D⟩ := D
  · simp at h
  obtain _ | ⟨d11, D⟩ := D
  · simp at h
  obtain _ | ⟨d12, D⟩ := D
  · simp at h
  obtain _ | ⟨d13, D⟩ := D
  · simp at h
  obtain _ | ⟨d14, D⟩ := D
  · simp at h
  obtain _ | ⟨d15, D⟩ := D
  · simp at h
  obtain _ | ⟨d16, D⟩ := D
  · simp at h
  obtain _ | ⟨d17, D⟩ := D
  · simp at h
  obtain _ | ⟨d18, D⟩ := D
  · simp at h
  obtain _ | ⟨d19, D⟩ := D
  · simp at h
  obtain _ | ⟨d20, D⟩ := D
  · simp at h
  obtain _ | ⟨d21, D⟩ := D
  · simp at h
  obtain _ | ⟨d22, D⟩ := D
  · simp at h
  obtain _ | ⟨d23, D⟩ := D
  · simp at h
  obtain _ | ⟨d24, D⟩ := D
  · simp at h
  obtain _ | ⟨d25, D⟩ := D
  · simp at h
  obtain _ | ⟨d26, D⟩ := D
  · simp at h
  obtain _ | ⟨d27, D⟩ := D
  · simp at h
  obtain _ | ⟨d28, D⟩ := D
  · simp at h
  obtain _ | ⟨d29, D⟩ := D
  · simp at h
  obtain _ | ⟨d30, D⟩ := D
  · simp at h
  obtain _ | ⟨d31, D⟩ := D
  · simp at h
  obtain _ | ⟨d, D⟩ := D
  · exact ⟨d0, d1, d2, d3, d4, d5, d6, d7, d8, d9, d10, d11, d12, d13, d14, d15, d16, d17, d18, d19, d20, d21, d22, d23, d24, d25, d26, d27, d28, d29, d30, d31, rfl⟩
  · simp at h
set_option maxRecDepth 100000 in
theorem build_file (nm : ByteArray) (sz first : Int) (D : List Int) (hD : D.length = 32) (W : World) : (Instr.build 43 #[(0, .string nm), (1, .int .i64 sz), (2, .agg (nums .u8 D).toArray), (3, .int .i64 first)]).run Tryd.prog W = .ok (.agg (fileL nm sz D first).toArray) W := by
  obtain ⟨d0, d1, d2, d3, d4, d5, d6, d7, d8, d9, d10, d11, d12, d13, d14, d15, d16, d17, d18, d19, d20, d21, d22, d23, d24, d25, d26, d27, d28, d29, d30, d31, rfl⟩ := list32 D hD
  exact run_build W _ _ _ (by kernel_rfl)
set_option maxRecDepth 100000 in
theorem build_slice (sz crc : Int) (D : List Int) (hD : D.length = 32) (W : World) : (Instr.build 38 #[(0, .int .i64 sz), (1, .int .u32 crc), (2, .agg (nums .u8 D).toArray)]).run Tryd.prog W = .ok (.agg (sliceL sz crc D).toArray) W := by
  obtain ⟨d0, d1, d2, d3, d4, d5, d6, d7, d8, d9, d10, d11, d12, d13, d14, d15, d16, d17, d18, d19, d20, d21, d22, d23, d24, d25, d26, d27, d28, d29, d30, d31, rfl⟩ := list32 D hD
  exact run_build W _ _ _ (by kernel_rfl)
set_option maxRecDepth 100000 in
theorem lay_file (nm : ByteArray) (sz first : Int) (D : List Int) (hD : D.length = 32) (W : World) : (Instr.buildSlice 25 1 #[(0, .agg (fileL nm sz D first).toArray)]).run Tryd.prog W = .ok (.slice (some ⟨W.heap.size, 0, none⟩) 1 1) (W.alloc (.cells (fileL nm sz D first).toArray 43)) := by
  obtain ⟨d0, d1, d2, d3, d4, d5, d6, d7, d8, d9, d10, d11, d12, d13, d14, d15, d16, d17, d18, d19, d20, d21, d22, d23, d24, d25, d26, d27, d28, d29, d30, d31, rfl⟩ := list32 D hD
  kernel_rfl
set_option maxRecDepth 100000 in
theorem lay_slice (sz crc : Int) (D : List Int) (hD : D.length = 32) (W : World) : (Instr.buildSlice 26 1 #[(0, .agg (sliceL sz crc D).toArray)]).run Tryd.prog W = .ok (.slice (some ⟨W.heap.size, 0, none⟩) 1 1) (W.alloc (.cells (sliceL sz crc D).toArray 38)) := by
  obtain ⟨d0, d1, d2, d3, d4, d5, d6, d7, d8, d9, d10, d11, d12, d13, d14, d15, d16, d17, d18, d19, d20, d21, d22, d23, d24, d25, d26, d27, d28, d29, d30, d31, rfl⟩ := list32 D hD
  kernel_rfl
end Gy
/- Blocks with roles: what stays where others turn. -/
namespace Gy
open Go Go.RowKit Go.Proofs.YtlmgikhgmbjfdaaDoorW.PrintWords Go.Proofs.YtlmgikhgmbjfdaaDoorW.PrintMore

/-- what a new block is for -/
def asRole (ρ : Nat → Nat) (b r : Nat) : Nat → Nat := fun k => if k = b then r else ρ k
theorem asRole_at (ρ : Nat → Nat) (b r : Nat) : asRole ρ b r b = r := if_pos rfl
theorem asRole_ne {ρ : Nat → Nat} {b k : Nat} (r : Nat) (h : k ≠ b) : asRole ρ b r k = ρ k := if_neg h
/-- only blocks of one role have turned, and new ones -/
structure Turn (w w' : World) (ρ ρ' : Nat → Nat) (R : Nat) : Prop where
  size : w.heap.size ≤ w'.heap.size
  same : ∀ k, k < w.heap.size → ρ k ≠ R → w'.heap[k]? = w.heap[k]?
  role : ∀ k, k < w.heap.size → ρ' k = ρ k
theorem Turn.below {w w' : World} {ρ : Nat → Nat} (R : Nat) (h : Below w.heap.size w w') : Turn w w' ρ ρ R := ⟨h.size, fun k hk _ => h.block k hk, fun _ _ => rfl⟩
theorem Turn.trans {w w1 w2 : World} {ρ ρ1 ρ2 : Nat → Nat} {R : Nat} (h : Turn w w1 ρ ρ1 R) (g : Turn w1 w2 ρ1 ρ2 R) : Turn w w2 ρ ρ2 R :=
  ⟨Nat.le_trans h.size g.size, fun k hk hr => (g.same k (Nat.lt_of_lt_of_le hk h.size) (by rw [h.role k hk]; exact hr)).trans (h.same k hk hr), fun k hk => (g.role k (Nat.lt_of_lt_of_le hk h.size)).trans (h.role k hk)⟩
theorem Turn.alloc (w : World) (o : Obj) (ρ : Nat → Nat) (r R : Nat) : Turn w (w.alloc o) ρ (asRole ρ w.heap.size r) R :=
  ⟨(Gy.alloc_below w o).size, fun k hk _ => (Gy.alloc_below w o).block k hk, fun _ hk => asRole_ne r (Nat.ne_of_lt hk)⟩
theorem Turn.grown {w w' : World} {v : Value} {ρ : Nat → Nat} {R : Nat} (h : w.grownBy w' v.ownBlock) (hr : ∀ k, v.ownBlock = some k → ρ k = R) : Turn w w' ρ (asRole ρ w.heap.size R) R :=
  ⟨h.size, fun k hk hn => h.block k hk (fun e => hn (hr k e.symm)), fun _ hk => asRole_ne R (Nat.ne_of_lt hk)⟩
theorem Turn.set {w : World} {b : Nat} {ρ : Nat → Nat} {R : Nat} (o : Nat) (x : Value) (hb : ρ b = R) : Turn w (w.setCell ⟨b, o, none⟩ x) ρ ρ R :=
  ⟨by rw [Gy.set_size]; exact Nat.le_refl _, fun k _ hn => Below.heap_setCell w ⟨b, o, none⟩ x k (fun e => hn (by rw [e]; exact hb)), fun _ _ => rfl⟩
theorem Turn.cells {w : World} {b : Nat} {ρ : Nat → Nat} {R : Nat} (o : Nat) (us : List Value) (hb : ρ b = R) : Turn w (w.setCells b o us) ρ ρ R :=
  ⟨by rw [Gy.setCells_size]; exact Nat.le_refl _, fun k _ hn => Gy.setCells_block (fun e => hn (by rw [← e]; exact hb)) us o w, fun _ _ => rfl⟩
/-- a row of its own, in blocks of a role -/
structure Rows (w : World) (ρ : Nat → Nat) (base r : Nat) (e : TypeId) (size : Nat) (v : Value) (n : Nat) (xs : List Value) : Prop where
  own : w.ownsRow base e size v n xs
  role : ∀ k, v.ownBlock = some k → ρ k = r
theorem Rows.nil (w : World) (ρ : Nat → Nat) (base r : Nat) (e : TypeId) (size : Nat) : Rows w ρ base r e size (.slice none 0 0) 0 [] := ⟨World.ownsRow_nil w base e size, fun k h => by cases h⟩
theorem Rows.turn {w w' : World} {ρ ρ' : Nat → Nat} {base r R : Nat} {e : TypeId} {size : Nat} {v : Value} {n : Nat} {xs : List Value} (h : Rows w ρ base r e size v n xs) (t : Turn w w' ρ ρ' R) (hr : r ≠ R) : Rows w' ρ' base r e size v n xs := by
  refine ⟨⟨h.own.1, ?_⟩, fun k hk => (t.role k (h.own.lt k hk).2).trans (h.role k hk)⟩
  rcases h.own.2 with hn | ⟨g, cap, cur, rfl, hb, hg, rest⟩
  · exact .inl hn
  · refine .inr ⟨g, cap, cur, rfl, hb, ?_, rest⟩
    rw [t.same g (Array.getElem?_eq_some_iff.1 hg).1 (by rw [h.role g rfl]; exact hr)]
    exact hg
theorem Rows.below {w w' : World} {ρ : Nat → Nat} {base r : Nat} {e : TypeId} {size : Nat} {v : Value} {n : Nat} {xs : List Value} (h : Rows w ρ base r e size v n xs) (hb : Below w.heap.size w w') : Rows w' ρ base r e size v n xs := h.turn (R := r + 1) (.below _ hb) (by omega)
/-- behind an append -/
theorem Rows.appended {w w' : World} {ρ : Nat → Nat} {base r : Nat} {e : TypeId} {size : Nat} {v v' : Value} {n n' : Nat} {xs ys : List Value} (h : Rows w ρ base r e size v n xs) (ho : w'.ownsRow base e size v' n' ys) (hl : v'.ownBlock = v.ownBlock ∨ v'.ownBlock = some w.heap.size) : Rows w' (asRole ρ w.heap.size r) base r e size v' n' ys := by
  refine ⟨ho, fun k hk => ?_⟩
  rcases hl with e | e
  · rw [e] at hk
    rw [asRole_ne r (Nat.ne_of_lt (h.own.lt k hk).2)]
    exact h.role k hk
  · rw [e] at hk
    injection hk with hk
    rw [← hk]
    exact asRole_at _ _ _
/-- cells, in a block of a role -/
structure RArr (w : World) (ρ : Nat → Nat) (r b : Nat) (vs : List Value) : Prop where
  arr : Gy.Arr w b vs
  role : ρ b = r
theorem RArr.turn {w w' : World} {ρ ρ' : Nat → Nat} {r R b : Nat} {vs : List Value} (h : RArr w ρ r b vs) (t : Turn w w' ρ ρ' R) (hr : r ≠ R) : RArr w' ρ' r b vs :=
  ⟨h.arr.of_block (t.same b h.arr.lt (by rw [h.role]; exact hr)) (Nat.lt_of_lt_of_le h.arr.lt t.size), (t.role b h.arr.lt).trans h.role⟩
theorem RArr.below {w w' : World} {ρ : Nat → Nat} {r b : Nat} {vs : List Value} (h : RArr w ρ r b vs) (hb : Below w.heap.size w w') : RArr w' ρ r b vs := h.turn (R := r + 1) (.below _ hb) (by omega)
theorem RArr.set {w : World} {ρ : Nat → Nat} {r b : Nat} {vs : List Value} (h : RArr w ρ r b vs) {i : Nat} (hi : i < vs.length) (v : Value) : RArr (w.setCell ⟨b, i, none⟩ v) ρ r b (vs.set i v) := ⟨h.arr.set hi v, h.role⟩
/-- values, each with what it is -/
def Each {α : Type} (C : Value → α → Prop) : List Value → List α → Prop
  | [], [] => True
  | v :: vs, x :: xs => C v x ∧ Each C vs xs
  | _, _ => False
theorem Each.mono {α : Type} {C D : Value → α → Prop} (h : ∀ v x, C v x → D v x) : ∀ {vs : List Value} {xs : List α}, Each C vs xs → Each D vs xs
  | [], [], _ => trivial
  | _ :: _, _ :: _, g => ⟨h _ _ g.1, g.2.mono h⟩
  | [], _ :: _, g => g.elim
  | _ :: _, [], g => g.elim
theorem Each.length {α : Type} {C : Value → α → Prop} : ∀ {vs : List Value} {xs : List α}, Each C vs xs → vs.length = xs.length
  | [], [], _ => rfl
  | _ :: _, _ :: _, g => by rw [List.length_cons, List.length_cons, g.2.length]
  | [], _ :: _, g => g.elim
  | _ :: _, [], g => g.elim
theorem Each.snoc {α : Type} {C : Value → α → Prop} : ∀ {vs : List Value} {xs : List α} {v : Value} {x : α}, Each C vs xs → C v x → Each C (vs ++ [v]) (xs ++ [x])
  | [], [], _, _, _, h => ⟨h, trivial⟩
  | _ :: _, _ :: _, _, _, g, h => ⟨g.1, g.2.snoc h⟩
  | [], _ :: _, _, _, g, _ => g.elim
  | _ :: _, [], _, _, g, _ => g.elim
theorem Each.at {α : Type} {C : Value → α → Prop} : ∀ {vs : List Value} {xs : List α}, Each C vs xs → ∀ (i : Nat) (x : α), xs[i]? = some x → ∃ v, vs[i]? = some v ∧ C v x
  | [], [], _, i, x, h => by simp at h
  | v :: _, _ :: _, g, 0, x, h => by simp only [List.getElem?_cons_zero, Option.some.injEq] at h; subst h; exact ⟨v, rfl, g.1⟩
  | _ :: _, _ :: _, g, i + 1, x, h => g.2.at i x (by simpa using h)
  | [], _ :: _, g, _, _, _ => g.elim
  | _ :: _, [], g, _, _, _ => g.elim
/-- an append in a region that draws, by Gy.FlowV or by hand: what it gives -/
theorem Rows.append {P : Program} {w : World} {ρ : Nat → Nat} {base r : Nat} {e : TypeId} {size : Nat} {v : Value} {n : Nat} {xs : List Value} (h : Rows w ρ base r e size v n xs) (t ty : TypeId) (i : TypeInfo) (z : Value) (bytes : Nat) (ht : P.underlying t = some (.slice e)) (hi : P.info? e = some i) (hz : i.zero = some z)
    (hsize : i.size = size) (hby : i.bytes = bytes) (hzs : z.cells.size = size) (hsz : 0 < size) {g m c : Nat} {o : Nat} (news : List Value) (hl : news.length = m * size) (hnews : ∀ j u, news[j]? = some u → w.cell? ((⟨g, o, none⟩ : Addr).add j) = some u) (h1 : ∀ u ∈ news, u.oneCell' = true)
    (hb : (n + m) * bytes ≤ 140737488355328) (h63 : n + m ≤ 1000000000) (hbase : base ≤ w.heap.size) :
    ∃ v' w', (Builtin.append_ #[t, t] ty #[v, .slice (some ⟨g, o, none⟩) m c]).run P w = .ok v' w' ∧ Rows w' (asRole ρ w.heap.size r) base r e size v' (n + m) (xs ++ news) ∧ Turn w w' ρ (asRole ρ w.heap.size r) r ∧ w.grownBy w' v.ownBlock := by
  obtain ⟨v', w', hr, h2, h3, _, h5⟩ := run_append_own_at (P := P) w base t ty e i z size bytes ht hi hz hsize hby hzs hsz v n xs h.own ⟨g, o, none⟩ m c news hl hnews h1 (by simp only [maxLen]; omega) hb hbase
  exact ⟨v', w', hr, h.appended h2 h5, .grown h3 h.role, h3⟩
end Gy
/- What package cut has made so far, in memory. -/
namespace Gy
open Go Go.Proofs Go.RowKit Go.Proofs.YtlmgikhgmbjfdaaDoorW.PrintWords Go.Proofs.YtlmgikhgmbjfdaaDoorW.PrintMore

structure Mk (w wr : World) (ρ : Nat → Nat) (SB : Nat) (cs : List Value) (fv lv rv : Value) (ks : List Value) (st : Cut) : Prop where
  bel : Below w.heap.size w wr
  res : RArr wr ρ 0 w.heap.size [.int .i64 0, .slice none 0 0, .slice none 0 0]
  base : w.heap.size ≤ SB
  s : RArr wr ρ 1 SB cs
  f : Rows wr ρ w.heap.size 2 43 35 fv st.files.length (st.files.flatMap FileR.cells)
  l : Rows wr ρ w.heap.size 3 38 34 lv st.slices.length (st.slices.flatMap SliceR.cells)
  r : Rows wr ρ w.heap.size 4 39 1 rv st.src.length ks
  c : Each (fun k row => Rows wr ρ w.heap.size 5 5 1 k row.length (nums .u8 row)) ks st.src
section
variable {w wr wr' : World} {ρ ρ' : Nat → Nat} {SB : Nat} {cs : List Value} {fv lv rv : Value} {ks : List Value} {st : Cut}
theorem Mk.turn (h : Mk w wr ρ SB cs fv lv rv ks st) {R : Nat} (t : Turn wr wr' ρ ρ' R) (hR : 6 ≤ R) (hb : Below w.heap.size w wr') : Mk w wr' ρ' SB cs fv lv rv ks st :=
  ⟨hb, h.res.turn t (by omega), h.base, h.s.turn t (by omega), h.f.turn t (by omega), h.l.turn t (by omega), h.r.turn t (by omega), h.c.mono fun _ _ g => g.turn t (by omega)⟩
theorem Mk.below (h : Mk w wr ρ SB cs fv lv rv ks st) (hb : Below wr.heap.size wr wr') : Mk w wr' ρ SB cs fv lv rv ks st := h.turn (.below 6 hb) (Nat.le_refl _) (h.bel.trans (hb.mono h.bel.size))
theorem Mk.size (h : Mk w wr ρ SB cs fv lv rv ks st) : w.heap.size ≤ wr.heap.size := h.bel.size
/-- a field of s is written -/
theorem Mk.put (h : Mk w wr ρ SB cs fv lv rv ks st) {i : Nat} (hi : i < cs.length) (v : Value) : Mk w (wr.setCell ⟨SB, i, none⟩ v) ρ SB (cs.set i v) fv lv rv ks st := by
  have t : Turn wr (wr.setCell ⟨SB, i, none⟩ v) ρ ρ 1 := .set i v h.s.role
  exact ⟨h.bel.setCell (show w.heap.size ≤ (⟨SB, i, none⟩ : Addr).block from h.base) v, h.res.turn t (by omega), h.base, h.s.set hi v, h.f.turn t (by omega), h.l.turn t (by omega), h.r.turn t (by omega), h.c.mono fun _ _ g => g.turn t (by omega)⟩
end
theorem info_file : (Tryd.prog.info? 43).map (fun i => (i.size, i.bytes, i.zero.map (·.cells.size))) = some (35, 64, some 35) := by kernel_rfl
theorem info_slice : (Tryd.prog.info? 38).map (fun i => (i.size, i.bytes, i.zero.map (·.cells.size))) = some (34, 48, some 34) := by kernel_rfl
theorem info_row8 : (Tryd.prog.info? 39).map (fun i => (i.size, i.bytes, i.zero.map (·.cells.size))) = some (1, 24, some 1) := by kernel_rfl
theorem info_parts {P : Program} {t : TypeId} {s b : Nat} (h : (P.info? t).map (fun i => (i.size, i.bytes, i.zero.map (·.cells.size))) = some (s, b, some s)) : ∃ i z, P.info? t = some i ∧ i.zero = some z ∧ i.size = s ∧ i.bytes = b ∧ z.cells.size = s := by
  obtain ⟨i, hi, hz⟩ := Option.map_eq_some_iff.1 h
  simp only [Prod.mk.injEq] at hz
  obtain ⟨h1, h2, h3⟩ := hz
  obtain ⟨z, hz, h4⟩ := Option.map_eq_some_iff.1 h3
  exact ⟨i, z, hi, hz, h1, h2, h4⟩
/-- an append onto a row with a role, at a program -/
theorem Rows.appendP {w : World} {ρ : Nat → Nat} {base r : Nat} {e : TypeId} {s b : Nat} {v : Value} {n : Nat} {xs : List Value} (h : Rows w ρ base r e s v n xs) (t ty : TypeId) (ht : Tryd.prog.underlying t = some (.slice e))
    (hi : (Tryd.prog.info? e).map (fun i => (i.size, i.bytes, i.zero.map (·.cells.size))) = some (s, b, some s)) (hs : 0 < s) (hb : b ≤ 1000) {g : Nat} {news : List Value} {T : TypeId} (hg : w.heap[g]? = some (.cells news.toArray T (0, 0))) (hl : news.length = s) (h1 : ∀ u ∈ news, u.oneCell' = true) (hn : n ≤ 100000) (hbase : base ≤ w.heap.size) :
    ∃ v' w', (Builtin.append_ #[t, t] ty #[v, .slice (some ⟨g, 0, none⟩) 1 1]).run Tryd.prog w = .ok v' w' ∧ Rows w' (asRole ρ w.heap.size r) base r e s v' (n + 1) (xs ++ news) ∧ Turn w w' ρ (asRole ρ w.heap.size r) r ∧ w.grownBy w' v.ownBlock := by
  obtain ⟨i, z, a1, a2, a3, a4, a5⟩ := info_parts hi
  refine h.append t ty i z b ht a1 a2 a3 a4 a5 hs news (by rw [hl, Nat.one_mul]) (fun j u hu => ?_) h1 ?_ (by omega) hbase
  · have := (Gy.Arr.of_cells (w := w) (b := g) (vs := news) (t := T) hg).cell hu
    rw [Addr.add_mid, Nat.zero_add]
    exact this
  · exact Nat.le_trans (Nat.mul_le_mul (show n + 1 ≤ 100001 by omega) hb) (by decide)
theorem one_file (nm : ByteArray) (sz first : Int) (D : List Int) : ∀ u ∈ fileL nm sz D first, u.oneCell' = true := by
  intro u hu
  unfold fileL at hu
  simp only [List.mem_cons, List.mem_append, List.not_mem_nil, or_false] at hu
  rcases hu with rfl | rfl | h | rfl
  · rfl
  · rfl
  · exact Gy.nums_one _ _ _ h
  · rfl
theorem one_slice (sz crc : Int) (D : List Int) : ∀ u ∈ sliceL sz crc D, u.oneCell' = true := by
  intro u hu
  unfold sliceL at hu
  simp only [List.mem_cons] at hu
  rcases hu with rfl | rfl | h
  · rfl
  · rfl
  · exact Gy.nums_one _ _ _ h
theorem len_file (nm : ByteArray) (sz first : Int) (D : List Int) (h : D.length = 32) : (fileL nm sz D first).length = 35 := by simp [fileL, Gy.nums_len, h]
theorem len_slice (sz crc : Int) (D : List Int) (h : D.length = 32) : (sliceL sz crc D).length = 34 := by simp [sliceL, Gy.nums_len, h]
section
variable {w wr wr' : World} {ρ ρ' : Nat → Nat} {SB : Nat} {cs : List Value} {fv lv rv : Value} {ks : List Value} {st : Cut}
theorem Mk.addFile (h : Mk w wr ρ SB cs fv lv rv ks st) {xb : Nat} {xs : List Value} (hx : RArr wr ρ 6 xb xs) (f : FileR) (hD : f.dig.length = 32) {g : Nat} {T : TypeId} (hg : wr.heap[g]? = some (.cells f.cells.toArray T (0, 0))) (hn : st.files.length ≤ 1000) (ty : TypeId) :
    ∃ v' w', (Builtin.append_ #[25, 25] ty #[fv, .slice (some ⟨g, 0, none⟩) 1 1]).run Tryd.prog wr = .ok v' w' ∧ (∃ ρ', Mk w w' ρ' SB cs v' lv rv ks ⟨st.files ++ [f], st.slices, st.src⟩ ∧ RArr w' ρ' 6 xb xs) ∧ wr.grownBy w' fv.ownBlock := by
  obtain ⟨v', w', hr, h2, t, h4⟩ := h.f.appendP 25 ty Tryd.underlying25 info_file (by decide) (by decide) hg (len_file _ _ _ _ hD) (one_file _ _ _ _) (by omega) h.size
  refine ⟨v', w', hr, ⟨_, ⟨h.bel.grown h4 h.size (fun k hk => (h.f.own.lt k hk).1), h.res.turn t (by omega), h.base, h.s.turn t (by omega), ?_, h.l.turn t (by omega), h.r.turn t (by omega), h.c.mono fun _ _ g => g.turn t (by omega)⟩, hx.turn t (by omega)⟩, h4⟩
  have e : (st.files ++ [f]).flatMap FileR.cells = st.files.flatMap FileR.cells ++ fileL f.name f.size f.dig f.first := by simp [List.flatMap_append, FileR.cells]
  show Rows w' _ w.heap.size 2 _ 35 v' (st.files ++ [f]).length ((st.files ++ [f]).flatMap FileR.cells)
  rw [e, List.length_append]
  exact h2
theorem Mk.addSlice (h : Mk w wr ρ SB cs fv lv rv ks st) {xb : Nat} {xs : List Value} (hx : RArr wr ρ 6 xb xs) (f : SliceR) (hD : f.dig.length = 32) {g : Nat} {T : TypeId} (hg : wr.heap[g]? = some (.cells f.cells.toArray T (0, 0))) (hn : st.slices.length ≤ 90000) (ty : TypeId) :
    ∃ v' w', (Builtin.append_ #[26, 26] ty #[lv, .slice (some ⟨g, 0, none⟩) 1 1]).run Tryd.prog wr = .ok v' w' ∧ (∃ ρ', Mk w w' ρ' SB cs fv v' rv ks ⟨st.files, st.slices ++ [f], st.src⟩ ∧ RArr w' ρ' 6 xb xs) ∧ wr.grownBy w' lv.ownBlock := by
  obtain ⟨v', w', hr, h2, t, h4⟩ := h.l.appendP 26 ty Tryd.underlying26 info_slice (by decide) (by decide) hg (len_slice _ _ _ hD) (one_slice _ _ _) (by omega) h.size
  refine ⟨v', w', hr, ⟨_, ⟨h.bel.grown h4 h.size (fun k hk => (h.l.own.lt k hk).1), h.res.turn t (by omega), h.base, h.s.turn t (by omega), h.f.turn t (by omega), ?_, h.r.turn t (by omega), h.c.mono fun _ _ g => g.turn t (by omega)⟩, hx.turn t (by omega)⟩, h4⟩
  have e : (st.slices ++ [f]).flatMap SliceR.cells = st.slices.flatMap SliceR.cells ++ sliceL f.size f.crc f.dig := by simp [List.flatMap_append, SliceR.cells]
  show Rows w' _ w.heap.size 3 _ 34 v' (st.slices ++ [f]).length ((st.slices ++ [f]).flatMap SliceR.cells)
  rw [e, List.length_append]
  exact h2
theorem Mk.addSrc (h : Mk w wr ρ SB cs fv lv rv ks st) {xb : Nat} {xs : List Value} (hx : RArr wr ρ 6 xb xs) {k : Value} {row : List Int} (hk : Rows wr ρ w.heap.size 5 5 1 k row.length (nums .u8 row)) (h1 : k.oneCell' = true) {g : Nat} {T : TypeId} (hg : wr.heap[g]? = some (.cells #[k] T (0, 0))) (hn : st.src.length ≤ 90000) (ty : TypeId) :
    ∃ v' w', (Builtin.append_ #[29, 29] ty #[rv, .slice (some ⟨g, 0, none⟩) 1 1]).run Tryd.prog wr = .ok v' w' ∧ (∃ ρ', Mk w w' ρ' SB cs fv lv v' (ks ++ [k]) ⟨st.files, st.slices, st.src ++ [row]⟩ ∧ RArr w' ρ' 6 xb xs ∧ Rows w' ρ' w.heap.size 5 5 1 k row.length (nums .u8 row)) ∧ wr.grownBy w' rv.ownBlock := by
  obtain ⟨v', w', hr, h2, t, h4⟩ := h.r.appendP 29 ty Tryd.underlying29 info_row8 (by decide) (by decide) (news := [k]) hg rfl (by intro u hu; rw [List.mem_singleton.1 hu]; exact h1) (by omega) h.size
  refine ⟨v', w', hr, ⟨_, ⟨h.bel.grown h4 h.size (fun k hk => (h.r.own.lt k hk).1), h.res.turn t (by omega), h.base, h.s.turn t (by omega), h.f.turn t (by omega), h.l.turn t (by omega), ?_, (h.c.mono fun _ _ g => g.turn t (by omega)).snoc (hk.turn t (by omega))⟩, hx.turn t (by omega), hk.turn t (by omega)⟩, h4⟩
  show Rows w' _ w.heap.size 4 _ 1 v' (st.src ++ [row]).length (ks ++ [k])
  rw [List.length_append]
  exact h2
end
/-- an append, as the walk carries it out -/
theorem exec_append {P : Program} {o : Oper} {a : Act} {w w' : World} {s x : Operand} {t : TypeId} {v u v' : Value} (ho : o.op = .call { callee := .builtin .append, args := #[s, x], argTypes := #[t, t] }) (hs : a.eval s = v) (hx : a.eval x = u) (hr : (Builtin.append_ #[t, t] o.type #[v, u]).run P w = .ok v' w') : (execOp a.eval o).run P w = .ok (.value v') w' := by
  unfold execOp
  simp only [ho, resolve, invoke, builtin, Sem.run_bind, Sem.run_pure, Result.andThen_ok, List.map_toArray, List.map_cons, List.map_nil, hs, hx, hr]
theorem wpList_value {P : Program} {ops : Array Oper} {rest : List Oper} {o : Oper} {a : Act} {w w' : World} {Q : Exit → Act → World → Prop} {v : Value} (hg : o.guard = none) (hr : (execOp a.eval o).run P w = .ok (.value v) w') (h : wpList P ops Q rest (a.put o.dst v) w') : wpList P ops Q (o :: rest) a w :=
  wpList_plain hg fun K hK => by
    unfold Oper.wp
    rw [hr]
    exact hK _ _ h
end Gy
/- Frames: what an act's slots hold, written out. -/
namespace Gy
open Go

/-- these slots hold these values -/
def AllAt (a : Act) : List (Nat × Value) → Prop
  | [] => True
  | (k, v) :: l => a.tmps.getD k undef = v ∧ AllAt a l
def lk : List (Nat × Value) → Nat → Option Value
  | [], _ => none
  | (k, v) :: l, i => if k = i then some v else lk l i
theorem AllAt.lk {a : Act} : ∀ {l : List (Nat × Value)}, AllAt a l → ∀ {i : Nat} {v : Value}, lk l i = some v → a.tmps.getD i undef = v
  | [], _, _, _, h => by cases h
  | (k, u) :: l, g, i, v, h => by
    unfold Gy.lk at h
    by_cases e : k = i
    · rw [if_pos e] at h
      injection h with h
      rw [← e, ← h]
      exact g.1
    · rw [if_neg e] at h
      exact g.2.lk h
/-- an act of so many slots, of which these are known -/
structure Fr (n : Nat) (l : List (Nat × Value)) (a : Act) : Prop where
  size : a.tmps.size = n
  defers : a.defers = []
  all : AllAt a l
theorem Fr.at {n : Nat} {l : List (Nat × Value)} {a : Act} (h : Fr n l a) (i : Nat) (v : Value) (e : Gy.lk l i = some v) : a.tmps.getD i undef = v := h.all.lk e
/-- the act, written out: the known slots' values, letters for all others -/
theorem Fr.out {n : Nat} {l : List (Nat × Value)} {a : Act} (h : Fr n l a) : ∃ u : Nat → Value, a = ⟨((List.range n).map fun i => (Gy.lk l i).getD (u i)).toArray, []⟩ := by
  refine ⟨fun i => a.tmps.getD i undef, ?_⟩
  have h1 : a.tmps = ((List.range n).map fun i => (Gy.lk l i).getD (a.tmps.getD i undef)).toArray := by
    apply Array.ext
    · simp [h.size]
    · intro i h1 h2
      have e : a.tmps[i] = a.tmps.getD i undef := by simp [h1]
      rw [e]
      simp only [List.getElem_toArray, List.getElem_map, List.getElem_range]
      cases hk : Gy.lk l i with
      | none => rfl
      | some v => exact h.at i v hk
  have hd := h.defers
  cases a with
  | mk t d => simp only at h1 hd ⊢; rw [hd, ← h1]
end Gy
/- A region that draws its order, all orders at once, with stores: what holds of the world may hang on what has been done. -/
namespace Gy.FlowL
open Go Go.RowKit
set_option linter.unusedVariables false

/-- what operation j has yielded -/
def At (ops : Array Oper) (a : Act) (j : Nat) : Value := match (ops[j]?).bind (·.dst) with
  | some d => a.tmps.getD d undef
  | none => undef
/-- an act of this region: only its own slots have turned -/
structure Same (ops : Array Oper) (a a' : Act) : Prop where
  defers : a'.defers = a.defers
  size : a'.tmps.size = a.tmps.size
  other : ∀ t, (∀ (j : Nat) (o : Oper), ops[j]? = some o → o.dst ≠ some t) → a'.tmps.getD t undef = a.tmps.getD t undef
/-- each operation writes a slot of its own, and waits for elder ones alone -/
def flowB (ops : Array Oper) (n : Nat) : Bool :=
  (List.range ops.size).all fun i => match ops[i]? with
    | none => true
    | some o => (match o.dst with | some d => decide (d < n) | none => true) &&
        (o.dst.isNone || (List.range i).all fun j => match ops[j]? with | some p => p.dst != o.dst | none => true) &&
        o.after.all fun e => !Region.binds .any e || decide (e.on < i)
section
variable {P : Program} {ops : Array Oper} {Q : Exit → Act → World → Prop} {a a' : Act} {n : Nat}
theorem flow_at (h : flowB ops n = true) {i : Nat} {o : Oper} (ho : ops[i]? = some o) : (∀ d, o.dst = some d → d < n) ∧ (∀ j p d, j < i → ops[j]? = some p → o.dst = some d → p.dst ≠ some d) ∧ (∀ e ∈ o.after, Region.binds .any e = true → e.on < i) := by
  have hi : i < ops.size := (Array.getElem?_eq_some_iff.1 ho).1
  have h1 := List.all_eq_true.1 h i (List.mem_range.2 hi)
  rw [ho] at h1
  simp only [Bool.and_eq_true] at h1
  obtain ⟨⟨h1, h2⟩, h3⟩ := h1
  refine ⟨fun d hd => ?_, fun j p d hj hp hd => ?_, fun e he => ?_⟩
  · rw [hd] at h1; exact of_decide_eq_true h1
  · rw [hd] at h2
    simp only [Option.isNone_some, Bool.false_or] at h2
    have := List.all_eq_true.1 h2 j (List.mem_range.2 hj)
    rw [hp] at this
    simpa using this
  · have := Array.all_eq_true_iff_forall_mem.1 h3 e he
    intro hbe
    simpa [hbe] using this
theorem flow_ne (h : flowB ops n = true) {i j : Nat} {o p : Oper} {d : Tmp} (ho : ops[i]? = some o) (hp : ops[j]? = some p) (hne : i ≠ j) (hd : o.dst = some d) : p.dst ≠ some d := by
  rcases Nat.lt_or_gt_of_ne hne with h1 | h1
  · intro e
    exact (flow_at h hp).2.1 i o d h1 ho e hd
  · exact (flow_at h ho).2.1 j p d h1 hp hd
theorem put_getD_ne {a : Act} {d : Option Tmp} {t : Tmp} (v : Value) (h : d ≠ some t) : (a.put d v).tmps.getD t undef = a.tmps.getD t undef := by
  cases d with
  | none => rfl
  | some d =>
    have hne : d ≠ t := fun e => h (by rw [e])
    simp [Act.put, Array.getElem?_setIfInBounds_ne hne]
theorem put_getD {a : Act} {d : Tmp} (v : Value) (h : d < a.tmps.size) : (a.put (some d) v).tmps.getD d undef = v := by
  simp [Act.put, h]
theorem put_size {a : Act} {d : Option Tmp} (v : Value) : (a.put d v).tmps.size = a.tmps.size := by cases d <;> simp [Act.put]
theorem put_defers {a : Act} {d : Option Tmp} (v : Value) : (a.put d v).defers = a.defers := by cases d <;> rfl
theorem at_put_ne (h : flowB ops n = true) {i j : Nat} {o : Oper} (ho : ops[i]? = some o) (hne : i ≠ j) (v : Value) : At ops (a.put o.dst v) j = At ops a j := by
  unfold At
  cases hp : ops[j]? with
  | none => rfl
  | some p =>
    cases hpd : p.dst with
    | none => simp [hpd]
    | some d =>
      simp only [Option.bind_some, hpd]
      refine put_getD_ne v (fun e => ?_)
      exact flow_ne h hp ho (fun e => hne e.symm) hpd e
theorem at_put (h : flowB ops n = true) {i : Nat} {o : Oper} (ho : ops[i]? = some o) (hn : a.tmps.size = n) (v : Value) : At ops (a.put o.dst v) i = if o.dst = none then undef else v := by
  unfold At
  cases hd : o.dst with
  | none => simp [ho, hd]
  | some d =>
    have hlt := (flow_at h ho).1 d hd
    simp only [ho, Option.bind_some, hd]
    rw [if_neg (by simp)]
    exact put_getD v (hn ▸ hlt)
theorem same_put {i : Nat} {o : Oper} (ho : ops[i]? = some o) (hs : Same ops a a') (v : Value) : Same ops a (a'.put o.dst v) :=
  ⟨(put_defers v).trans hs.defers, (put_size v).trans hs.size, fun t ht => (put_getD_ne v (ht i o ho)).trans (hs.other t ht)⟩
def add (L : Nat → Bool) (i : Nat) : Nat → Bool := fun j => if j = i then true else L j
/-- one operation, out of what it waits for; a store yields nothing -/
def StepOk (P : Program) (ops : Array Oper) (Q : Exit → Act → World → Prop) (V : Value → World → Prop) (J : World → Prop) (E : World → World → Prop) (o : Oper) (a : Act) (w : World) : Prop :=
  ∀ K : Act → World → Prop, (∀ v w', V (if o.dst = none then undef else v) w' → J w' → E w w' → K (a.put o.dst v) w') → if Region.wanted o (yielded ops a.tmps) = true then Oper.wp P o a w K Q else K (a.put o.dst undef) w
def waits (o : Oper) (j : Nat) : Bool := o.after.any fun e => Region.binds .any e && e.on == j
/-- what is done when operation o comes up -/
structure Done (ops : Array Oper) (V : Nat → Value → World → Prop) (J : (Nat → Bool) → World → Prop) (a : Act) (i : Nat) (o : Oper) (L : Nat → Bool) (a' : Act) (w : World) : Prop where
  not : L i = false
  waits : ∀ j, waits o j = true → L j = true
  down : ∀ j p, ops[j]? = some p → L j = true → ∀ k, FlowL.waits p k = true → L k = true
  same : Same ops a a'
  J : J L w
  V : ∀ j, j < ops.size → L j = true → V j (At ops a' j) w
theorem setB {l : Array Bool} {i j : Nat} (hj : j < l.size) : (l.setIfInBounds i true)[j]'(by simpa using hj) = (if i = j then true else l[j]) := by
  rw [Array.getElem_setIfInBounds]
theorem flow_any (V : Nat → Value → World → Prop) (J : (Nat → Bool) → World → Prop) (E : World → World → Prop) (hd : flowB ops a.tmps.size = true) (hV : ∀ i v w w', V i v w → E w w' → V i v w')
    (hstep : ∀ i o, ops[i]? = some o → ∀ L a' w, Done ops V J a i o L a' w → StepOk P ops Q (V i) (J (add L i)) E o a' w)
    (hend : ∀ L a' w, Same ops a a' → J L w → (∀ i, i < ops.size → L i = true) → (∀ i, i < ops.size → V i (At ops a' i) w) → Q .normal a' w) :
    ∀ (fuel : Nat) (listed : Array Bool) (L : Nat → Bool) (a' : Act) (w : World), listed.size = ops.size → ops.size ≤ fuel + listed.toList.countP id → (∀ i, L i = listed.getD i false) → Same ops a a' → J L w →
      (∀ j p, ops[j]? = some p → L j = true → ∀ k, waits p k = true → L k = true) → (∀ i, i < ops.size → L i = true → V i (At ops a' i) w) → wpAny P .any ops Q fuel listed a' w := by
  intro fuel
  have hready : ∀ (listed : Array Bool) i, i ∈ Region.ready .any ops listed → ∃ o, ops[i]? = some o ∧ listed.getD i true = false ∧ ∀ e ∈ o.after, Region.binds .any e = true → listed.getD e.on false = true := by
    intro listed i hi
    unfold Region.ready at hi
    obtain ⟨h1, h2⟩ := List.mem_filter.1 hi
    simp only [Bool.and_eq_true, Bool.not_eq_true'] at h2
    have hlt := List.mem_range.1 h1
    refine ⟨ops[i], Array.getElem?_eq_getElem hlt, h2.1, fun e he hb => ?_⟩
    have h3 := h2.2
    rw [Array.getElem?_eq_getElem hlt] at h3
    simp only [Option.map_some, Option.getD_some] at h3
    have := Array.all_eq_true_iff_forall_mem.1 h3 e he
    simpa [hb] using this
  have hall : ∀ (listed : Array Bool) (L : Nat → Bool) a' w, listed.size = ops.size → (∀ i, L i = listed.getD i false) → Same ops a a' → J L w → (∀ i, i < ops.size → L i = true → V i (At ops a' i) w) → Region.ready .any ops listed = [] → Q .normal a' w := by
    intro listed L a' w hsz hL hs hJ hl hr
    have key : ∀ i (h : i < listed.size), listed[i] = true := by
      intro i
      induction i using Nat.strongRecOn with
      | _ i ih =>
        intro h
        cases hb : listed[i] with
        | true => rfl
        | false =>
          exfalso
          have hi : i < ops.size := by omega
          have : i ∈ Region.ready .any ops listed := by
            unfold Region.ready
            refine List.mem_filter.2 ⟨List.mem_range.2 hi, ?_⟩
            rw [Array.getElem?_eq_getElem hi]
            simp only [Option.map_some, Option.getD_some, Bool.and_eq_true, Bool.not_eq_true']
            refine ⟨by simp [h, hb], Array.all_eq_true_iff_forall_mem.2 fun e he => ?_⟩
            by_cases hbe : Region.binds .any e = true
            · have hlt := (flow_at hd (Array.getElem?_eq_getElem hi)).2.2 e he hbe
              have h2 : e.on < listed.size := by omega
              simp [ih e.on hlt h2, h2]
            · simp [hbe]
          rw [hr] at this
          cases this
    have hLt : ∀ i, i < ops.size → L i = true := fun i hi => by
      rw [hL]
      have h1 : i < listed.size := by omega
      simp [h1, key i h1]
    exact hend L a' w hs hJ hLt (fun i hi => hl i hi (hLt i hi))
  induction fuel with
  | zero =>
    intro listed L a' w hsz hc hL hs hJ hdn hl
    have hz : listed.toList.countP id = listed.toList.length := by
      have := List.countP_le_length (p := id) (l := listed.toList)
      simp only [Array.length_toList] at this ⊢
      omega
    have ht := List.countP_eq_length.1 hz
    have hr : Region.ready .any ops listed = [] := by
      rw [List.eq_nil_iff_forall_not_mem]
      intro i hi
      obtain ⟨o, ho, hf, _⟩ := hready listed i hi
      have hlt : i < listed.size := by have := (Array.getElem?_eq_some_iff.1 ho).1; omega
      have : listed[i] = true := ht _ (by simp)
      simp [hlt, this] at hf
    exact ⟨hr, hall listed L a' w hsz hL hs hJ hl hr⟩
  | succ fuel ih =>
    intro listed L a' w hsz hc hL hs hJ hdn hl
    refine ⟨hall listed L a' w hsz hL hs hJ hl, fun i hi => ?_⟩
    obtain ⟨o, ho, hf, haft⟩ := hready listed i hi
    have hlt : i < listed.size := by have := (Array.getElem?_eq_some_iff.1 ho).1; omega
    have hfi : listed[i] = false := by simpa [hlt] using hf
    have hLi : L i = false := by rw [hL]; simp [hlt, hfi]
    have hw : ∀ j, waits o j = true → L j = true := by
      intro j hj
      unfold waits at hj
      obtain ⟨e, he, hb⟩ := Array.any_eq_true'.1 hj
      simp only [Bool.and_eq_true, beq_iff_eq] at hb
      obtain ⟨hb1, rfl⟩ := hb
      rw [hL]
      exact haft e he hb1
    have hLs : ∀ j, add L i j = (listed.setIfInBounds i true).getD j false := by
      intro j
      unfold add
      by_cases e : j = i
      · subst e
        simp [hlt]
      · rw [if_neg e, hL]
        simp [Array.getElem?_setIfInBounds_ne (fun h => e h.symm)]
    refine wpOp_step ho ?_
    refine fun K hK => hstep i o ho L a' w ⟨hLi, hw, hdn, hs, hJ, hl⟩ K fun v w' hv hJ' hb => hK _ _ (ih _ (add L i) _ _ (by simpa using hsz) ?_ hLs (same_put ho hs v) hJ' (fun j p hp hj k hk => ?_) fun j h hj => ?_)
    · have hcs : (listed.setIfInBounds i true).toList.countP id = listed.toList.countP id + 1 := by
        rw [Array.toList_setIfInBounds, List.countP_set (by simpa using hlt)]
        have : listed.toList[i]'(by simpa using hlt) = false := by simpa using hfi
        simp [this]
      omega
    · unfold add at hj ⊢
      by_cases e : k = i
      · rw [if_pos e]
      · rw [if_neg e]
        by_cases e2 : j = i
        · subst e2
          rw [ho] at hp
          injection hp with hp
          subst hp
          exact hw k hk
        · rw [if_neg e2] at hj
          exact hdn j p hp hj k hk
    · by_cases e : i = j
      · subst e
        rw [at_put hd ho hs.size v]
        exact hv
      · have hj' : L j = true := by
          unfold add at hj
          rwa [if_neg (fun h => e h.symm)] at hj
        rw [at_put_ne hd ho e v]
        exact hV j _ w w' (hl j h hj') hb
/-- The region, all orders at once. -/
theorem flow {id : Nat} {w : World} (hm : P.follows .mixedOrders = true) (V : Nat → Value → World → Prop) (J : (Nat → Bool) → World → Prop) (E : World → World → Prop) (hd : flowB ops a.tmps.size = true) (hJ : J (fun _ => false) w.drew)
    (hV : ∀ i v w w', V i v w → E w w' → V i v w')
    (hstep : ∀ i o, ops[i]? = some o → ∀ L a' w, Done ops V J a i o L a' w → StepOk P ops Q (V i) (J (add L i)) E o a' w)
    (hend : ∀ L a' w, Same ops a a' → J L w → (∀ i, i < ops.size → L i = true) → (∀ i, i < ops.size → V i (At ops a' i) w) → Q .normal a' w) : (Code.region id ops true).wp P Q a w := by
  refine wp_region_any hm (flow_any V J E hd hV hstep hend ops.size _ (fun _ => false) a _ (by simp) (by omega) (fun i => ?_) ⟨rfl, rfl, fun _ _ => rfl⟩ hJ (fun j p _ h => by cases h) fun i h hi => by cases hi)
  by_cases h : i < ops.size <;> simp [h]
end
/-- the act, written out -/
def puts : Act → List Oper → (Nat → Value) → Nat → Act
  | a, [], _, _ => a
  | a, o :: l, vs, k => puts (a.put o.dst (vs k)) l vs (k + 1)
section
variable {ops : Array Oper} {a a' : Act} {n : Nat}
theorem puts_size : ∀ (l : List Oper) (a : Act) (vs : Nat → Value) (k : Nat), (puts a l vs k).tmps.size = a.tmps.size
  | [], _, _, _ => rfl
  | o :: l, a, vs, k => (puts_size l _ vs (k + 1)).trans (put_size _)
theorem puts_defers : ∀ (l : List Oper) (a : Act) (vs : Nat → Value) (k : Nat), (puts a l vs k).defers = a.defers
  | [], _, _, _ => rfl
  | o :: l, a, vs, k => (puts_defers l _ vs (k + 1)).trans (put_defers _)
theorem puts_none (t : Tmp) : ∀ (l : List Oper) (a : Act) (vs : Nat → Value) (k : Nat), (∀ o ∈ l, o.dst ≠ some t) → (puts a l vs k).tmps.getD t undef = a.tmps.getD t undef
  | [], _, _, _, _ => rfl
  | o :: l, a, vs, k, h => (puts_none t l _ vs (k + 1) (fun p hp => h p (List.mem_cons_of_mem _ hp))).trans (put_getD_ne _ (h o List.mem_cons_self))
theorem puts_at (t : Tmp) : ∀ (l : List Oper) (a : Act) (vs : Nat → Value) (k i : Nat) (o : Oper), l[i]? = some o → o.dst = some t → (∀ j p, i < j → l[j]? = some p → p.dst ≠ some t) → t < a.tmps.size → (puts a l vs k).tmps.getD t undef = vs (k + i)
  | [], _, _, _, _, _, h, _, _, _ => by simp at h
  | p :: l, a, vs, k, 0, o, h, hd, hl, ht => by
    simp only [List.getElem?_cons_zero, Option.some.injEq] at h
    subst h
    refine (puts_none t l _ vs (k + 1) (fun q hq => ?_)).trans (by rw [hd]; exact put_getD _ ht)
    obtain ⟨j, hj⟩ := List.getElem?_of_mem hq
    exact hl (j + 1) q (by omega) (by simpa using hj)
  | p :: l, a, vs, k, i + 1, o, h, hd, hl, ht => by
    have := puts_at t l (a.put p.dst (vs k)) vs (k + 1) i o (by simpa using h) hd (fun j q hj hq => hl (j + 1) q (by omega) (by simpa using hq)) (by rw [put_size]; exact ht)
    rw [show k + (i + 1) = k + 1 + i from by omega]
    exact this
theorem same_puts (hd : flowB ops a.tmps.size = true) (hs : Same ops a a') : a' = puts a ops.toList (At ops a') 0 := by
  have h1 : a'.defers = (puts a ops.toList (At ops a') 0).defers := hs.defers.trans (puts_defers _ _ _ _).symm
  have h2 : a'.tmps = (puts a ops.toList (At ops a') 0).tmps := by
    apply Array.ext
    · rw [hs.size, puts_size]
    · intro t h3 h4
      have g3 : a'.tmps[t] = a'.tmps.getD t undef := by simp [h3]
      have g4 : (puts a ops.toList (At ops a') 0).tmps[t] = (puts a ops.toList (At ops a') 0).tmps.getD t undef := by simp [h4]
      rw [g3, g4]
      by_cases hex : ∃ (i : Nat) (o : Oper), ops[i]? = some o ∧ o.dst = some t
      · obtain ⟨i, o, ho, hdo⟩ := hex
        have ht : t < a.tmps.size := by rw [hs.size] at h3; exact h3
        rw [puts_at t ops.toList a (At ops a') 0 i o (by simpa using ho) hdo (fun j p hj hp => by
          have hp' : ops[j]? = some p := by simpa using hp
          exact flow_ne hd ho hp' (by omega) hdo) ht, Nat.zero_add]
        unfold At
        simp only [ho, Option.bind_some, hdo]
      · rw [puts_none t ops.toList a (At ops a') 0 (fun o ho hdo => by
          obtain ⟨i, hi⟩ := List.getElem?_of_mem ho
          exact hex ⟨i, o, by simpa using hi, hdo⟩)]
        exact hs.other t (fun j o ho hdo => hex ⟨j, o, ho, hdo⟩)
  cases a' with
  | mk t d =>
    cases hp : puts a ops.toList (At ops ⟨t, d⟩) 0 with
    | mk t2 d2 =>
      rw [hp] at h1 h2
      simp only at h1 h2
      subst h1 h2
      rfl
end
/-- what each operation's fact needs: that it stays -/
def MonoAll (E : World → World → Prop) : List (Value → World → Prop) → Prop
  | [] => True
  | V :: l => (∀ v w w', V v w → E w w' → V v w') ∧ MonoAll E l
theorem mono_list {E : World → World → Prop} : ∀ (l : List (Value → World → Prop)), MonoAll E l → ∀ (i : Nat) (v : Value) (w w' : World), l.getD i (fun _ _ => True) v w → E w w' → l.getD i (fun _ _ => True) v w'
  | [], _, i, v, w, w', h, hb => by simp
  | V :: l, hl, 0, v, w, w', h, hb => hl.1 v w w' h hb
  | V :: l, hl, i + 1, v, w, w', h, hb => mono_list l hl.2 i v w w' h hb
/-- every operation of a list, with its number -/
def AllFrom (C : Nat → Oper → Prop) : Nat → List Oper → Prop
  | _, [] => True
  | k, o :: l => C k o ∧ AllFrom C (k + 1) l
theorem allFrom_at {C : Nat → Oper → Prop} : ∀ (l : List Oper) (k : Nat), AllFrom C k l → ∀ (i : Nat) (o : Oper), l[i]? = some o → C (k + i) o
  | [], _, _, i, o, h => by simp at h
  | p :: l, k, h, i, o, ho => by
    cases i with
    | zero =>
      simp only [List.getElem?_cons_zero, Option.some.injEq] at ho
      subst ho
      exact h.1
    | succ i =>
      have := allFrom_at l (k + 1) h.2 i o (by simpa using ho)
      rw [show k + (i + 1) = k + 1 + i from by omega]
      exact this
theorem of_allFrom {C : Nat → Oper → Prop} {l : List Oper} (h : AllFrom C 0 l) : ∀ (i : Nat) (o : Oper), l.toArray[i]? = some o → C i o := fun i o ho => by
  have := allFrom_at l 0 h i o (by simpa using ho)
  rwa [Nat.zero_add] at this
def noDst (ops : Array Oper) (t : Tmp) : Bool := ops.all fun o => o.dst != some t
section
variable {P : Program} {ops : Array Oper} {Q : Exit → Act → World → Prop} {a a' : Act} {n : Nat}
theorem Same.at_other (hs : Same ops a a') (t : Tmp) (h : noDst ops t = true) : a'.eval (.tmp t) = a.tmps.getD t undef :=
  hs.other t fun j o ho => by
    have := Array.all_eq_true_iff_forall_mem.1 h o (Array.mem_of_getElem? ho)
    simpa using this
theorem Done.at {V : Nat → Value → World → Prop} {J : (Nat → Bool) → World → Prop} {i : Nat} {o : Oper} {L : Nat → Bool} {w : World} (h : Done ops V J a i o L a' w) (j : Nat) (hj : (FlowL.waits o j && decide (j < ops.size)) = true) : V j (At ops a' j) w := by
  simp only [Bool.and_eq_true, decide_eq_true_eq] at hj
  exact h.V j hj.2 (h.waits j hj.1)
/-- not done: it waits for this one -/
theorem Done.later {V : Nat → Value → World → Prop} {J : (Nat → Bool) → World → Prop} {i : Nat} {o : Oper} {L : Nat → Bool} {w : World} (h : Done ops V J a i o L a' w) (j : Nat) (hj : ((ops[j]?).map fun p => FlowL.waits p i) = some true) : L j = false := by
  obtain ⟨p, hp, hw⟩ := Option.map_eq_some_iff.1 hj
  cases hl : L j with
  | false => rfl
  | true =>
    have := h.down j p hp hl i hw
    rw [h.not] at this
    cases this
section
variable {V : Value → World → Prop} {J : World → Prop} {E : World → World → Prop} {o : Oper} {w : World} {v : Value}
theorem wanted_none (h : o.guard = none) : Region.wanted o (yielded ops a.tmps) = true := by simp [Region.wanted, h]
theorem yielded_of {g : Nat} {b : Bool} (h : At ops a g = .bool b) : yielded ops a.tmps g = some b := by
  unfold At at h
  unfold yielded
  cases hd : (ops[g]?).bind (·.dst) with
  | none => rw [hd] at h; cases h
  | some d =>
    rw [hd] at h
    simp only [Option.bind_some]
    simp only [Array.getD_eq_getD_getElem?] at h
    cases he : a.tmps[d]? with
    | none => rw [he] at h; cases h
    | some u => rw [he] at h; simp only [Option.getD_some] at h; rw [h]
theorem wanted_some {g : Nat} {b : Bool} (h : o.guard = some (g, b)) (hg : At ops a g = .bool b) : Region.wanted o (yielded ops a.tmps) = true := by
  simp [Region.wanted, h, yielded_of hg]
theorem step_value {d : Tmp} {w1 : World} (hdst : o.dst = some d) (hw : Region.wanted o (yielded ops a.tmps) = true) (hrun : (execOp a.eval o).run P w = .ok (.value v) w1) (hV : V v w1) (hJ : J w1) (hb : E w w1) : StepOk P ops Q V J E o a w := by
  intro K hK
  rw [if_pos hw]
  unfold Oper.wp
  rw [hrun]
  exact hK v w1 (by rw [if_neg (by rw [hdst]; simp)]; exact hV) hJ hb
theorem step_skip {w1 : World} (hdst : o.dst = none) (hw : Region.wanted o (yielded ops a.tmps) = true) (hrun : (execOp a.eval o).run P w = .ok .skip w1) (hV : V undef w1) (hJ : J w1) (hb : E w w1) : StepOk P ops Q V J E o a w := by
  intro K hK
  rw [if_pos hw]
  unfold Oper.wp
  rw [hrun]
  exact hK undef w1 (by rw [if_pos hdst]; exact hV) hJ hb
theorem step_move {x : Operand} {d : Tmp} (hop : o.op = .move x) (hdst : o.dst = some d) (hw : Region.wanted o (yielded ops a.tmps) = true) (hV : V (a.eval x) w) (hJ : J w) (hE : E w w) : StepOk P ops Q V J E o a w :=
  step_value hdst hw (by unfold execOp; simp [hop]) hV hJ hE
theorem step_assign {x : Operand} {d : Tmp} (hop : o.op = .assign x) (hdst : o.dst = some d) (hw : Region.wanted o (yielded ops a.tmps) = true) (hV : V (a.eval x) w) (hJ : J w) (hE : E w w) : StepOk P ops Q V J E o a w :=
  step_value hdst hw (by unfold execOp; simp [hop]) hV hJ hE
theorem step_pick {c x y : Operand} {b : Bool} {d : Tmp} (hop : o.op = .pick c x y) (hdst : o.dst = some d) (hw : Region.wanted o (yielded ops a.tmps) = true) (hc : a.eval c = .bool b) (hV : V (a.eval (if b then x else y)) w) (hJ : J w) (hE : E w w) : StepOk P ops Q V J E o a w :=
  step_value hdst hw (by unfold execOp; cases b <;> simp [hop, hc, asBool]) hV hJ hE
theorem step_call {f : FuncId} {fn : Func} {as_ : Array Operand} {ts : Array TypeId} {args : Array Value} {d : Tmp} (hdst : o.dst = some d) (hw : Region.wanted o (yielded ops a.tmps) = true) (hf : P.funcs[f]? = some fn) (hname : (fn.name == "runtime.NumGoroutine") = false) (hb : fn.body.isSome = true)
    (hop : o.op = .call { callee := .value (.func f), args := as_, argTypes := ts }) (hargs : as_.map a.eval = args)
    (h : Calls P f args w fun e w' => ∃ v, e = .returned v ∧ V v w' ∧ J w' ∧ E w w') : StepOk P ops Q V J E o a w := by
  intro K hK
  rw [if_pos hw]
  unfold Oper.wp
  have hrun : (execOp a.eval o).run P w = .ok (.enter f args) w := by
    have h1 : fn.name ≠ "runtime.NumGoroutine" := by simpa using hname
    obtain ⟨c, hc⟩ := Option.isSome_iff_exists.1 hb
    have he : (callFunc f args).run P w = .ok (.enter f args) w := by simp [callFunc, hf, h1, hc]
    unfold execOp
    simp [hop, resolve, Deferred.ofValue, invoke, Act.eval, hargs, he]
  rw [hrun]
  simp only [Oper.upon]
  refine h.mono ?_
  rintro e w' ⟨v, rfl, h1, h2, h3⟩
  exact hK v w' (by rw [if_neg (by rw [hdst]; simp)]; exact h1) h2 h3
end
end
end Gy.FlowL
/- A region that draws its order, all orders at once, with stores: what holds of the world may hang on what has been done, and on what it has yielded. -/
namespace Gy.FlowV
open Go Go.RowKit Gy.FlowL
set_option linter.unusedVariables false
section
variable {P : Program} {ops : Array Oper} {Q : Exit → Act → World → Prop} {a a' : Act} {n : Nat}
/-- what has been yielded, with one more -/
def upd (f : Nat → Value) (i : Nat) (v : Value) : Nat → Value := fun j => if j = i then v else f j
theorem upd_ne {f : Nat → Value} {i j : Nat} (v : Value) (h : j ≠ i) : upd f i v j = f j := if_neg h
theorem upd_at (f : Nat → Value) (i : Nat) (v : Value) : upd f i v i = v := if_pos rfl
theorem add_ne {L : Nat → Bool} {i j : Nat} (h : j ≠ i) : add L i j = L j := if_neg h
theorem add_at (L : Nat → Bool) (i : Nat) : add L i i = true := if_pos rfl
theorem at_upd (h : flowB ops n = true) {i : Nat} {o : Oper} (ho : ops[i]? = some o) (hn : a.tmps.size = n) (v : Value) : At ops (a.put o.dst v) = upd (At ops a) i (if o.dst = none then undef else v) := by
  funext j
  by_cases e : j = i
  · subst e
    rw [upd_at, at_put h ho hn v]
  · rw [upd_ne _ e, at_put_ne h ho (fun h => e h.symm) v]
/-- one operation, out of what it waits for; a store yields nothing -/
def StepOk (P : Program) (ops : Array Oper) (Q : Exit → Act → World → Prop) (V : Value → World → Prop) (J : Value → World → Prop) (E : World → World → Prop) (o : Oper) (a : Act) (w : World) : Prop :=
  ∀ K : Act → World → Prop, (∀ v w', V (if o.dst = none then undef else v) w' → J (if o.dst = none then undef else v) w' → E w w' → K (a.put o.dst v) w') → if Region.wanted o (yielded ops a.tmps) = true then Oper.wp P o a w K Q else K (a.put o.dst undef) w
/-- what is done when operation o comes up -/
structure Done (ops : Array Oper) (V : Nat → Value → World → Prop) (J : (Nat → Bool) → (Nat → Value) → World → Prop) (a : Act) (i : Nat) (o : Oper) (L : Nat → Bool) (a' : Act) (w : World) : Prop where
  not : L i = false
  waits : ∀ j, waits o j = true → L j = true
  down : ∀ j p, ops[j]? = some p → L j = true → ∀ k, FlowL.waits p k = true → L k = true
  same : Same ops a a'
  J : J L (At ops a') w
  V : ∀ j, j < ops.size → L j = true → V j (At ops a' j) w
theorem flow_any (V : Nat → Value → World → Prop) (J : (Nat → Bool) → (Nat → Value) → World → Prop) (E : World → World → Prop) (hd : flowB ops a.tmps.size = true) (hV : ∀ i v w w', V i v w → E w w' → V i v w')
    (hstep : ∀ i o, ops[i]? = some o → ∀ L a' w, Done ops V J a i o L a' w → StepOk P ops Q (V i) (fun v => J (add L i) (upd (At ops a') i v)) E o a' w)
    (hend : ∀ L a' w, Same ops a a' → J L (At ops a') w → (∀ i, i < ops.size → L i = true) → (∀ i, i < ops.size → V i (At ops a' i) w) → Q .normal a' w) :
    ∀ (fuel : Nat) (listed : Array Bool) (L : Nat → Bool) (a' : Act) (w : World), listed.size = ops.size → ops.size ≤ fuel + listed.toList.countP id → (∀ i, L i = listed.getD i false) → Same ops a a' → J L (At ops a') w →
      (∀ j p, ops[j]? = some p → L j = true → ∀ k, waits p k = true → L k = true) → (∀ i, i < ops.size → L i = true → V i (At ops a' i) w) → wpAny P .any ops Q fuel listed a' w := by
  intro fuel
  have hready : ∀ (listed : Array Bool) i, i ∈ Region.ready .any ops listed → ∃ o, ops[i]? = some o ∧ listed.getD i true = false ∧ ∀ e ∈ o.after, Region.binds .any e = true → listed.getD e.on false = true := by
    intro listed i hi
    unfold Region.ready at hi
    obtain ⟨h1, h2⟩ := List.mem_filter.1 hi
    simp only [Bool.and_eq_true, Bool.not_eq_true'] at h2
    have hlt := List.mem_range.1 h1
    refine ⟨ops[i], Array.getElem?_eq_getElem hlt, h2.1, fun e he hb => ?_⟩
    have h3 := h2.2
    rw [Array.getElem?_eq_getElem hlt] at h3
    simp only [Option.map_some, Option.getD_some] at h3
    have := Array.all_eq_true_iff_forall_mem.1 h3 e he
    simpa [hb] using this
  have hall : ∀ (listed : Array Bool) (L : Nat → Bool) a' w, listed.size = ops.size → (∀ i, L i = listed.getD i false) → Same ops a a' → J L (At ops a') w → (∀ i, i < ops.size → L i = true → V i (At ops a' i) w) → Region.ready .any ops listed = [] → Q .normal a' w := by
    intro listed L a' w hsz hL hs hJ hl hr
    have key : ∀ i (h : i < listed.size), listed[i] = true := by
      intro i
      induction i using Nat.strongRecOn with
      | _ i ih =>
        intro h
        cases hb : listed[i] with
        | true => rfl
        | false =>
          exfalso
          have hi : i < ops.size := by omega
          have : i ∈ Region.ready .any ops listed := by
            unfold Region.ready
            refine List.mem_filter.2 ⟨List.mem_range.2 hi, ?_⟩
            rw [Array.getElem?_eq_getElem hi]
            simp only [Option.map_some, Option.getD_some, Bool.and_eq_true, Bool.not_eq_true']
            refine ⟨by simp [h, hb], Array.all_eq_true_iff_forall_mem.2 fun e he => ?_⟩
            by_cases hbe : Region.binds .any e = true
            · have hlt := (flow_at hd (Array.getElem?_eq_getElem hi)).2.2 e he hbe
              have h2 : e.on < listed.size := by omega
              simp [ih e.on hlt h2, h2]
            · simp [hbe]
          rw [hr] at this
          cases this
    have hLt : ∀ i, i < ops.size → L i = true := fun i hi => by
      rw [hL]
      have h1 : i < listed.size := by omega
      simp [h1, key i h1]
    exact hend L a' w hs hJ hLt (fun i hi => hl i hi (hLt i hi))
  induction fuel with
  | zero =>
    intro listed L a' w hsz hc hL hs hJ hdn hl
    have hz : listed.toList.countP id = listed.toList.length := by
      have := List.countP_le_length (p := id) (l := listed.toList)
      simp only [Array.length_toList] at this ⊢
      omega
    have ht := List.countP_eq_length.1 hz
    have hr : Region.ready .any ops listed = [] := by
      rw [List.eq_nil_iff_forall_not_mem]
      intro i hi
      obtain ⟨o, ho, hf, _⟩ := hready listed i hi
      have hlt : i < listed.size := by have := (Array.getElem?_eq_some_iff.1 ho).1; omega
      have : listed[i] = true := ht _ (by simp)
      simp [hlt, this] at hf
    exact ⟨hr, hall listed L a' w hsz hL hs hJ hl hr⟩
  | succ fuel ih =>
    intro listed L a' w hsz hc hL hs hJ hdn hl
    refine ⟨hall listed L a' w hsz hL hs hJ hl, fun i hi => ?_⟩
    obtain ⟨o, ho, hf, haft⟩ := hready listed i hi
    have hlt : i < listed.size := by have := (Array.getElem?_eq_some_iff.1 ho).1; omega
    have hfi : listed[i] = false := by simpa [hlt] using hf
    have hLi : L i = false := by rw [hL]; simp [hlt, hfi]
    have hw : ∀ j, waits o j = true → L j = true := by
      intro j hj
      unfold waits at hj
      obtain ⟨e, he, hb⟩ := Array.any_eq_true'.1 hj
      simp only [Bool.and_eq_true, beq_iff_eq] at hb
      obtain ⟨hb1, rfl⟩ := hb
      rw [hL]
      exact haft e he hb1
    have hLs : ∀ j, add L i j = (listed.setIfInBounds i true).getD j false := by
      intro j
      unfold add
      by_cases e : j = i
      · subst e
        simp [hlt]
      · rw [if_neg e, hL]
        simp [Array.getElem?_setIfInBounds_ne (fun h => e h.symm)]
    refine wpOp_step ho ?_
    refine fun K hK => hstep i o ho L a' w ⟨hLi, hw, hdn, hs, hJ, hl⟩ K fun v w' hv hJ' hb => hK _ _ (ih _ (add L i) _ _ (by simpa using hsz) ?_ hLs (same_put ho hs v) (by rw [at_upd hd ho hs.size v]; exact hJ') (fun j p hp hj k hk => ?_) fun j h hj => ?_)
    · have hcs : (listed.setIfInBounds i true).toList.countP id = listed.toList.countP id + 1 := by
        rw [Array.toList_setIfInBounds, List.countP_set (by simpa using hlt)]
        have : listed.toList[i]'(by simpa using hlt) = false := by simpa using hfi
        simp [this]
      omega
    · unfold add at hj ⊢
      by_cases e : k = i
      · rw [if_pos e]
      · rw [if_neg e]
        by_cases e2 : j = i
        · subst e2
          rw [ho] at hp
          injection hp with hp
          subst hp
          exact hw k hk
        · rw [if_neg e2] at hj
          exact hdn j p hp hj k hk
    · by_cases e : i = j
      · subst e
        rw [at_put hd ho hs.size v]
        exact hv
      · have hj' : L j = true := by
          unfold add at hj
          rwa [if_neg (fun h => e h.symm)] at hj
        rw [at_put_ne hd ho e v]
        exact hV j _ w w' (hl j h hj') hb
/-- The region, all orders at once. -/
theorem flow {id : Nat} {w : World} (hm : P.follows .mixedOrders = true) (V : Nat → Value → World → Prop) (J : (Nat → Bool) → (Nat → Value) → World → Prop) (E : World → World → Prop) (hd : flowB ops a.tmps.size = true) (hJ : ∀ f, J (fun _ => false) f w.drew)
    (hV : ∀ i v w w', V i v w → E w w' → V i v w')
    (hstep : ∀ i o, ops[i]? = some o → ∀ L a' w, Done ops V J a i o L a' w → StepOk P ops Q (V i) (fun v => J (add L i) (upd (At ops a') i v)) E o a' w)
    (hend : ∀ L a' w, Same ops a a' → J L (At ops a') w → (∀ i, i < ops.size → L i = true) → (∀ i, i < ops.size → V i (At ops a' i) w) → Q .normal a' w) : (Code.region id ops true).wp P Q a w := by
  refine wp_region_any hm (flow_any V J E hd hV hstep hend ops.size _ (fun _ => false) a _ (by simp) (by omega) (fun i => ?_) ⟨rfl, rfl, fun _ _ => rfl⟩ (hJ _) (fun j p _ h => by cases h) fun i h hi => by cases hi)
  by_cases h : i < ops.size <;> simp [h]
theorem Done.at {V : Nat → Value → World → Prop} {J : (Nat → Bool) → (Nat → Value) → World → Prop} {i : Nat} {o : Oper} {L : Nat → Bool} {w : World} (h : Done ops V J a i o L a' w) (j : Nat) (hj : (FlowL.waits o j && decide (j < ops.size)) = true) : V j (At ops a' j) w := by
  simp only [Bool.and_eq_true, decide_eq_true_eq] at hj
  exact h.V j hj.2 (h.waits j hj.1)
/-- not done: it waits for this one -/
theorem Done.later {V : Nat → Value → World → Prop} {J : (Nat → Bool) → (Nat → Value) → World → Prop} {i : Nat} {o : Oper} {L : Nat → Bool} {w : World} (h : Done ops V J a i o L a' w) (j : Nat) (hj : ((ops[j]?).map fun p => FlowL.waits p i) = some true) : L j = false := by
  obtain ⟨p, hp, hw⟩ := Option.map_eq_some_iff.1 hj
  cases hl : L j with
  | false => rfl
  | true =>
    have := h.down j p hp hl i hw
    rw [h.not] at this
    cases this
section
variable {V : Value → World → Prop} {J : Value → World → Prop} {E : World → World → Prop} {o : Oper} {w : World} {v : Value}
theorem step_value {d : Tmp} {w1 : World} (hdst : o.dst = some d) (hw : Region.wanted o (yielded ops a.tmps) = true) (hrun : (execOp a.eval o).run P w = .ok (.value v) w1) (hV : V v w1) (hJ : J v w1) (hb : E w w1) : StepOk P ops Q V J E o a w := by
  intro K hK
  rw [if_pos hw]
  unfold Oper.wp
  rw [hrun]
  exact hK v w1 (by rw [if_neg (by rw [hdst]; simp)]; exact hV) (by rw [if_neg (by rw [hdst]; simp)]; exact hJ) hb
theorem step_skip {w1 : World} (hdst : o.dst = none) (hw : Region.wanted o (yielded ops a.tmps) = true) (hrun : (execOp a.eval o).run P w = .ok .skip w1) (hV : V undef w1) (hJ : J undef w1) (hb : E w w1) : StepOk P ops Q V J E o a w := by
  intro K hK
  rw [if_pos hw]
  unfold Oper.wp
  rw [hrun]
  exact hK undef w1 (by rw [if_pos hdst]; exact hV) (by rw [if_pos hdst]; exact hJ) hb
theorem step_move {x : Operand} {d : Tmp} (hop : o.op = .move x) (hdst : o.dst = some d) (hw : Region.wanted o (yielded ops a.tmps) = true) (hV : V (a.eval x) w) (hJ : J (a.eval x) w) (hE : E w w) : StepOk P ops Q V J E o a w :=
  step_value hdst hw (by unfold execOp; simp [hop]) hV hJ hE
theorem step_assign {x : Operand} {d : Tmp} (hop : o.op = .assign x) (hdst : o.dst = some d) (hw : Region.wanted o (yielded ops a.tmps) = true) (hV : V (a.eval x) w) (hJ : J (a.eval x) w) (hE : E w w) : StepOk P ops Q V J E o a w :=
  step_value hdst hw (by unfold execOp; simp [hop]) hV hJ hE
theorem step_pick {c x y : Operand} {b : Bool} {d : Tmp} (hop : o.op = .pick c x y) (hdst : o.dst = some d) (hw : Region.wanted o (yielded ops a.tmps) = true) (hc : a.eval c = .bool b) (hV : V (a.eval (if b then x else y)) w) (hJ : J (a.eval (if b then x else y)) w) (hE : E w w) : StepOk P ops Q V J E o a w :=
  step_value hdst hw (by unfold execOp; cases b <;> simp [hop, hc, asBool]) hV hJ hE
theorem step_call {f : FuncId} {fn : Func} {as_ : Array Operand} {ts : Array TypeId} {args : Array Value} {d : Tmp} (hdst : o.dst = some d) (hw : Region.wanted o (yielded ops a.tmps) = true) (hf : P.funcs[f]? = some fn) (hname : (fn.name == "runtime.NumGoroutine") = false) (hb : fn.body.isSome = true)
    (hop : o.op = .call { callee := .value (.func f), args := as_, argTypes := ts }) (hargs : as_.map a.eval = args)
    (h : Calls P f args w fun e w' => ∃ v, e = .returned v ∧ V v w' ∧ J v w' ∧ E w w') : StepOk P ops Q V J E o a w := by
  intro K hK
  rw [if_pos hw]
  unfold Oper.wp
  have hrun : (execOp a.eval o).run P w = .ok (.enter f args) w := by
    have h1 : fn.name ≠ "runtime.NumGoroutine" := by simpa using hname
    obtain ⟨c, hc⟩ := Option.isSome_iff_exists.1 hb
    have he : (callFunc f args).run P w = .ok (.enter f args) w := by simp [callFunc, hf, h1, hc]
    unfold execOp
    simp [hop, resolve, Deferred.ofValue, invoke, Act.eval, hargs, he]
  rw [hrun]
  simp only [Oper.upon]
  refine h.mono ?_
  rintro e w' ⟨v, rfl, h1, h2, h3⟩
  exact hK v w' (by rw [if_neg (by rw [hdst]; simp)]; exact h1) (by rw [if_neg (by rw [hdst]; simp)]; exact h2) h3
end
end
/-- an append, then the store of what it gives: what holds ahead of both, between them, behind them -/
def AppJ (ia is : Nat) (B : World → Prop) (M E : Value → World → Prop) (L : Nat → Bool) (f : Nat → Value) (w : World) : Prop :=
  (L ia = false → B w) ∧ (L ia = true → L is = false → M (f ia) w) ∧ (L is = true → E (f ia) w)
section
variable {ia is : Nat} {B : World → Prop} {M E : Value → World → Prop} {L : Nat → Bool} {f : Nat → Value} {w : World}
theorem AppJ.start (h : B w) : AppJ ia is B M E (fun _ => false) f w := ⟨fun _ => h, fun h => (by cases h), fun h => (by cases h)⟩
theorem AppJ.keep (h : AppJ ia is B M E L f w) (i : Nat) (v : Value) (h1 : ia ≠ i) (h2 : is ≠ i) : AppJ ia is B M E (add L i) (upd f i v) w :=
  ⟨fun g => h.1 (by rwa [add_ne h1] at g), fun g k => by rw [upd_ne v h1]; exact h.2.1 (by rwa [add_ne h1] at g) (by rwa [add_ne h2] at k), fun g => by rw [upd_ne v h1]; exact h.2.2 (by rwa [add_ne h2] at g)⟩
theorem AppJ.early (h : AppJ ia is B M E L f w) (hL : L ia = false) : B w := h.1 hL
theorem AppJ.go {w' : World} (hL : L ia = false) (hS : L is = false) (hB : B w') (i : Nat) (v : Value) (h1 : ia ≠ i) (h2 : is ≠ i) : AppJ ia is B M E (add L i) (upd f i v) w' :=
  ⟨fun _ => hB, fun g => (by rw [add_ne h1, hL] at g; cases g), fun g => (by rw [add_ne h2, hS] at g; cases g)⟩
theorem AppJ.app {w' : World} {v : Value} (hne : is ≠ ia) (hS : L is = false) (hM : M v w') : AppJ ia is B M E (add L ia) (upd f ia v) w' :=
  ⟨fun g => (by rw [add_at] at g; cases g), fun _ _ => by rw [upd_at]; exact hM, fun g => (by rw [add_ne hne, hS] at g; cases g)⟩
theorem AppJ.store {w' : World} {v : Value} (hne : ia ≠ is) (hL : L ia = true) (hE : E (f ia) w') : AppJ ia is B M E (add L is) (upd f is v) w' :=
  ⟨fun g => (by rw [add_ne hne, hL] at g; cases g), fun _ g => (by rw [add_at] at g; cases g), fun _ => by rw [upd_ne v hne]; exact hE⟩
end
theorem Done.not_yet {ops : Array Oper} {a a' : Act} {V : Nat → Value → World → Prop} {J : (Nat → Bool) → (Nat → Value) → World → Prop} {i : Nat} {o : Oper} {L : Nat → Bool} {w : World} (h : Done ops V J a i o L a' w) {k : Nat} (hk : L k = false) (j : Nat) (hj : ((ops[j]?).map fun p => FlowL.waits p k) = some true) : L j = false := by
  obtain ⟨p, hp, hw⟩ := Option.map_eq_some_iff.1 hj
  cases hl : L j with
  | false => rfl
  | true =>
    have := h.down j p hp hl k hw
    rw [hk] at this
    cases this
end Gy.FlowV
/- bytes.Clone, called. -/
namespace Gy
open Go Go.Proofs Go.RowKit Go.Proofs.YtlmgikhgmbjfdaaDoorW.PrintWords Go.Proofs.YtlmgikhgmbjfdaaDoorW.PrintLast Go.Proofs.YtlmgikhgmbjfdaaDoorW.PrintMore

theorem info_u8 : (Tryd.prog.info? 5).map (fun i => (i.zero, i.size, i.bytes)) = some (some (.int .u8 0), 1, 1) := by kernel_rfl
theorem eql_nil {P : Program} (w : World) (t e : TypeId) (a : Option Addr) (l c : Nat) (h : P.underlying t = some (.slice e)) : (binOp .eql t (.slice a l c) (.slice none 0 0)).run P w = .ok (.bool a.isNone) w := by
  simp [binOp, run_equal_slice_nil w t e a l c h]
theorem reads_alloc {w : World} {k : IntKind} {A : Option Addr} {n : Nat} {xs : List Int} (h : ReadsInt w k A n xs) (o : Obj) : ReadsInt (w.alloc o) k A n xs := Gy.reads_below h (Gy.alloc_below w o)
/-- a copy stands in a row of its own -/
def CopyPost (w : World) (xs : List Int) (e : Ending) (w' : World) : Prop := ∃ v, e = .returned v ∧ w'.ownsRow w.heap.size 5 1 v xs.length (nums .u8 xs) ∧ Below w.heap.size w w'
set_option maxHeartbeats 2000000 in
set_option maxRecDepth 100000 in
theorem clone_calls (A : Option Addr) (n c : Nat) (xs : List Int) (w : World) (hR : ReadsInt w .u8 A n xs) (hl : xs.length ≤ 140737488355328) :
    Calls Tryd.prog 28 #[.slice A n c] w fun e w' => CopyPost w xs e w' := by
  have HR := Lib.hid hR
  have HL := Lib.hid hl
  have hnil : ∀ W : World, (binOp .eql 39 (.slice A n c) (.slice none 0 0)).run Tryd.prog W = .ok (.bool A.isNone) W := fun W => eql_nil W _ _ A n c Tryd.underlying39
  rcases A with _ | ad
  · have h0 : xs = [] := by
      rcases Nat.eq_zero_or_pos n with h | h
      · exact List.eq_nil_of_length_eq_zero (hR.1.trans h)
      · obtain ⟨ad, h, _⟩ := hR.2.2 h; cases h
    subst h0
    clear hR hl
    go_enter Tryd.func28, Tryd.ntmps28
    go_wp2
    go_ret
    exact ⟨_, rfl, ⟨rfl, .inl ⟨rfl, rfl⟩⟩, Below.refl _ _⟩
  · clear hR hl
    go_enter Tryd.func28, Tryd.ntmps28
    go_wp2_with (at_builtin; refine print_append_row (w0 := w) w.heap.size rfl (.tmp 5) (.tmp 6) 39 5 .u8 1 rfl Tryd.underlying39 info_u8 (by decide) (.slice (some ⟨w.heap.size, 0, none⟩) 0 0) [] xs (some ad) n c rfl rfl (World.ownsRow_lit w #[] 0 (Nat.le_refl _) (by decide) rfl) (reads_alloc HR.out _) ((Below.refl _ _).alloc (Nat.le_refl _) _) (by simp) (by have := HR.out.1; have := HL.out; simp; omega) ?_; intro v1 w1 ho hb hgr hat; have E := Lib.hid (And.intro ho hb); clear ho hb hgr hat)
    go_ret
    exact ⟨_, rfl, E.out.1, E.out.2⟩
end Gy
/- Machine-made by a program of this claim: functions of the Go program as Lean functions, and that its calls do what these say. Lean checks it. -/
namespace Go.Proofs.YtlmgikhgmbjfdaaDoor.QDig
open Go.RowKit Go.Proofs.YtlmgikhgmbjfdaaDoorW.PrintWords Go.Proofs.YtlmgikhgmbjfdaaDoorW.PrintLast Go.Proofs.YtlmgikhgmbjfdaaDoorW.PrintMore
attribute [local go_sem] max2_int min2_int max_two min_two max_three min_three max_four min_four   -- for this text's walks alone
set_option linter.unusedVariables false
set_option linter.unusedSimpArgs false



def errW : Option Int → Value
  | none => .nilIface
  | some c => .iface 0 (.int .i64 c)
theorem errW_none : errW none = .nilIface := rfl
theorem errW_some (c : Int) : errW (some c) = .iface 0 (.int .i64 c) := rfl

theorem info5 : (Tryd.prog.info? 5).map (fun i => (i.zero, i.size, i.bytes)) = some (some (.int .u8 0), 1, 1) := by kernel_rfl
-- the values' own types

end Go.Proofs.YtlmgikhgmbjfdaaDoor.QDig
