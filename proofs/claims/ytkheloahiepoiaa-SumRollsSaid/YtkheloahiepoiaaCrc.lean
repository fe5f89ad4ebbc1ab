/- CRCs on natural numbers: plain lemmas, no program in sight. -/
import Derived.Test.YtkheloahiepoiaaBt
namespace Gy
open Go

def cstep (c : Nat) : Nat := if c % 2 = 1 then (c / 2) ^^^ 3988292384 else c / 2
def cturn : Nat → Nat → Nat
  | 0, c => c
  | n + 1, c => cturn n (cstep c)
def cbits : Nat → Nat → Nat → Nat
  | 0, _, c => c
  | n + 1, b, c => cbits n (b / 2) (cstep (c ^^^ b % 2))
def crcFold : Nat → List Int → Nat
  | c, [] => c
  | c, x :: l => crcFold (cturn 8 (c ^^^ x.toNat)) l
def crc (l : List Int) : Nat := crcFold 4294967295 l ^^^ 4294967295

theorem xor_lt32 {a b : Nat} (ha : a < 4294967296) (hb : b < 4294967296) : a ^^^ b < 4294967296 := Nat.xor_lt_two_pow (n := 32) ha hb
theorem cstep_lt {c : Nat} (h : c < 4294967296) : cstep c < 4294967296 := by
  unfold cstep; split
  · exact xor_lt32 (by omega) (by omega)
  · omega
theorem cturn_lt : ∀ (n c : Nat), c < 4294967296 → cturn n c < 4294967296 := by
  intro n
  induction n with
  | zero => intro c h; exact h
  | succ n ih => intro c h; exact ih _ (cstep_lt h)
theorem crcFold_lt : ∀ (l : List Int) (c : Nat), c < 4294967296 → (∀ x ∈ l, 0 ≤ x ∧ x < 256) → crcFold c l < 4294967296 := by
  intro l
  induction l with
  | nil => intro c h _; exact h
  | cons x l ih =>
    intro c h hx
    have := hx x (by simp)
    exact ih _ (cturn_lt 8 _ (xor_lt32 h (by omega))) (fun y hy => hx y (by simp [hy]))
theorem crc_lt (l : List Int) (h : ∀ x ∈ l, 0 ≤ x ∧ x < 256) : crc l < 4294967296 := xor_lt32 (crcFold_lt l _ (by omega) h) (by omega)
theorem xor_mod2 (a b : Nat) : (a ^^^ b) % 2 = (a % 2) ^^^ (b % 2) := by
  have := Nat.xor_mod_two_pow (a := a) (b := b) (n := 1)
  simpa using this
theorem xor_div2 (a b : Nat) : (a ^^^ b) / 2 = (a / 2) ^^^ (b / 2) := by
  have := Nat.xor_div_two_pow (a := a) (b := b) (n := 1)
  simpa using this
/-- what stands behind the last bit goes through a step -/
theorem cstep_split (c b : Nat) : cstep (c ^^^ b) = cstep (c ^^^ b % 2) ^^^ (b / 2) := by
  have h1 : (c ^^^ b) % 2 = (c ^^^ b % 2) % 2 := by rw [xor_mod2, xor_mod2 c (b % 2), Nat.mod_mod]
  have h2 : (c ^^^ b) / 2 = (c ^^^ b % 2) / 2 ^^^ (b / 2) := by
    rw [xor_div2, xor_div2 c (b % 2), show b % 2 / 2 = 0 from by omega, Nat.xor_zero]
  unfold cstep
  rw [h1, h2]
  split
  · ac_rfl
  · rfl
theorem cturn_bits : ∀ (n c b : Nat), b < 2 ^ n → cturn n (c ^^^ b) = cbits n b c := by
  intro n
  induction n with
  | zero =>
    intro c b h
    obtain rfl : b = 0 := by simp at h; omega
    exact Nat.xor_zero c
  | succ n ih =>
    intro c b h
    show cturn n (cstep (c ^^^ b)) = cbits n (b / 2) (cstep (c ^^^ b % 2))
    rw [cstep_split]
    exact ih _ _ (by rw [Nat.pow_succ] at h; omega)
theorem u8_range {x : Int} (h : (Lit.int .u8 x).wf = true) : 0 ≤ x ∧ x < 256 := by
  obtain ⟨n, rfl, hn⟩ := wf_u8 h
  omega
end Gy
