/- A rolled CRC: plain lemmas, no program in sight. -/
import Derived.Test.YtkheloahiepoiaaCrc
namespace Gy
open Go

theorem cstep_xor (a b : Nat) : cstep (a ^^^ b) = cstep a ^^^ cstep b := by
  have h1 := xor_mod2 a b
  have h2 := xor_div2 a b
  have pa : a % 2 = 0 ∨ a % 2 = 1 := by omega
  have pb : b % 2 = 0 ∨ b % 2 = 1 := by omega
  unfold cstep
  rw [h1, h2]
  rcases pa with pa | pa <;> rcases pb with pb | pb <;> rw [pa, pb]
  · rfl
  · show (a / 2 ^^^ b / 2) ^^^ 3988292384 = a / 2 ^^^ (b / 2 ^^^ 3988292384)
    rw [Nat.xor_assoc]
  · show (a / 2 ^^^ b / 2) ^^^ 3988292384 = (a / 2 ^^^ 3988292384) ^^^ b / 2
    ac_rfl
  · show a / 2 ^^^ b / 2 = (a / 2 ^^^ 3988292384) ^^^ (b / 2 ^^^ 3988292384)
    have e : (a / 2 ^^^ 3988292384) ^^^ (b / 2 ^^^ 3988292384) = (a / 2 ^^^ b / 2) ^^^ (3988292384 ^^^ 3988292384) := by ac_rfl
    rw [e, Nat.xor_self, Nat.xor_zero]
theorem cturn_xor : ∀ n a b, cturn n (a ^^^ b) = cturn n a ^^^ cturn n b := by
  intro n
  induction n with
  | zero => intro a b; rfl
  | succ n ih =>
    intro a b
    show cturn n (cstep (a ^^^ b)) = _
    rw [cstep_xor, ih]
    rfl
theorem cturn_shift : ∀ n h, cturn n (2 ^ n * h) = h := by
  intro n
  induction n with
  | zero => intro h; show 2 ^ 0 * h = h; omega
  | succ n ih =>
    intro h
    show cturn n (cstep (2 ^ (n + 1) * h)) = h
    have e : cstep (2 ^ (n + 1) * h) = 2 ^ n * h := by
      rw [Nat.pow_succ, Nat.mul_assoc, Nat.mul_left_comm]
      unfold cstep
      rw [if_neg (by omega), Nat.mul_div_cancel_left _ (by omega)]
    rw [e, ih]
theorem split_byte (c : Nat) : (2 ^ 8 * (c / 256)) ^^^ (c % 256) = c := by
  have h1 : ((2 ^ 8 * (c / 256)) ^^^ (c % 256)) / 2 ^ 8 = c / 256 := by
    rw [Nat.xor_div_two_pow, Nat.mul_div_cancel_left _ (by omega), show c % 256 / 2 ^ 8 = 0 from by omega, Nat.xor_zero]
  have h2 : ((2 ^ 8 * (c / 256)) ^^^ (c % 256)) % 2 ^ 8 = c % 256 := by
    rw [Nat.xor_mod_two_pow, Nat.mul_mod_right, Nat.zero_xor]
    omega
  have h3 := Nat.div_add_mod ((2 ^ 8 * (c / 256)) ^^^ (c % 256)) (2 ^ 8)
  rw [h1, h2] at h3
  omega
theorem cturn_high (c x : Nat) : (c / 256) ^^^ cturn 8 ((c % 256) ^^^ x) = cturn 8 (c ^^^ x) := by
  have h := cturn_shift 8 (c / 256)
  have e : c ^^^ x = (2 ^ 8 * (c / 256)) ^^^ ((c % 256) ^^^ x) := by
    rw [← Nat.xor_assoc, split_byte]
  rw [e, cturn_xor 8 (2 ^ 8 * (c / 256)), h]
/-- what so many bytes make of what stands ahead of them -/
def cdrop : Nat → Nat → Nat
  | 0, d => d
  | n + 1, d => cdrop n (cturn 8 d)
theorem crcFold_lin : ∀ (l : List Int) (a d : Nat), crcFold (a ^^^ d) l = crcFold a l ^^^ cdrop l.length d := by
  intro l
  induction l with
  | nil => intro a d; rfl
  | cons x l ih =>
    intro a d
    show crcFold (cturn 8 ((a ^^^ d) ^^^ x.toNat)) l = crcFold (cturn 8 (a ^^^ x.toNat)) l ^^^ cdrop l.length (cturn 8 d)
    have e : (a ^^^ d) ^^^ x.toNat = (a ^^^ x.toNat) ^^^ d := by ac_rfl
    rw [e, cturn_xor, ih]
theorem crcFold_snoc (l : List Int) (x : Int) : ∀ a, crcFold a (l ++ [x]) = cturn 8 (crcFold a l ^^^ x.toNat) := by
  induction l with
  | nil => intro a; rfl
  | cons y l ih => intro a; exact ih _
def zeros (n : Nat) : List Int := List.replicate n 0
/-- what a byte that leaves makes of the sum -/
def outv (size : Nat) (o : Int) : Nat := crc (o :: zeros size) ^^^ crc (zeros size)
theorem x4 (a b c : Nat) : ((a ^^^ b) ^^^ c) ^^^ ((((a ^^^ b) ^^^ a) ^^^ b) ^^^ c) = (a ^^^ b) ^^^ ((c ^^^ c)) ^^^ ((a ^^^ a) ^^^ (b ^^^ b)) := by ac_rfl
theorem crc_roll (o : Int) (y : List Int) : crc (o :: y) ^^^ outv y.length o = crc y := by
  have hd : ∀ z : List Int, crcFold 4294967295 (o :: z) = crcFold 4294967295 z ^^^ cdrop z.length (4294967295 ^^^ cturn 8 (4294967295 ^^^ o.toNat)) := by
    intro z
    rw [← crcFold_lin, ← Nat.xor_assoc, Nat.xor_self, Nat.zero_xor]
    rfl
  have hz : (zeros y.length).length = y.length := List.length_replicate
  unfold outv crc
  rw [hd y, hd (zeros y.length), hz]
  generalize crcFold 4294967295 y = p
  generalize crcFold 4294967295 (zeros y.length) = q
  generalize cdrop y.length (4294967295 ^^^ cturn 8 (4294967295 ^^^ o.toNat)) = d
  generalize (4294967295 : Nat) = f
  have e : p ^^^ d ^^^ f ^^^ (q ^^^ d ^^^ f ^^^ (q ^^^ f)) = (p ^^^ f) ^^^ ((d ^^^ d) ^^^ ((q ^^^ q) ^^^ (f ^^^ f))) := by ac_rfl
  rw [e, Nat.xor_self, Nat.xor_self, Nat.xor_self]
  simp
/-- what a window's sum becomes, a byte further on -/
def nextv (size c : Nat) (o i : Int) : Nat := (4294967295 ^^^ (((4294967295 ^^^ c) / 256) ^^^ cturn 8 (((4294967295 ^^^ c) % 256) ^^^ i.toNat))) ^^^ outv size o
theorem ones_crc (l : List Int) : 4294967295 ^^^ crc l = crcFold 4294967295 l := by
  unfold crc
  generalize crcFold 4294967295 l = p
  have e : 4294967295 ^^^ (p ^^^ 4294967295) = p ^^^ (4294967295 ^^^ 4294967295) := by ac_rfl
  rw [e, Nat.xor_self, Nat.xor_zero]
theorem nextv_law (o : Int) (l : List Int) (i : Int) : nextv (l.length + 1) (crc (o :: l)) o i = crc (l ++ [i]) := by
  have h := crc_roll o (l ++ [i])
  rw [List.length_append, List.length_singleton] at h
  unfold nextv
  rw [ones_crc, cturn_high]
  rw [show (4294967295 ^^^ cturn 8 (crcFold 4294967295 (o :: l) ^^^ i.toNat)) = crc (o :: (l ++ [i])) from ?_, h]
  rw [← crcFold_snoc, Nat.xor_comm]
  rfl
theorem window_cons (xs : List Int) (i n : Nat) (h : i < xs.length) : (xs.drop i).take (n + 1) = xs[i] :: (xs.drop (i + 1)).take n := by
  rw [List.drop_eq_getElem_cons h, List.take_succ_cons]
theorem window_snoc (xs : List Int) (i n : Nat) (h : i + n < xs.length) : (xs.drop i).take (n + 1) = (xs.drop i).take n ++ [xs[i + n]] := by
  have hl : n < (xs.drop i).length := by rw [List.length_drop]; omega
  rw [List.take_succ_eq_append_getElem hl]
  congr 2
  rw [List.getElem_drop]
theorem roll_step (xs : List Int) (i size : Nat) (h1 : 1 ≤ size) (h : i + size < xs.length) :
    nextv size (crc ((xs.drop i).take size)) (xs[i]'(by omega)) (xs[i + size]) = crc ((xs.drop (i + 1)).take size) := by
  obtain ⟨n, rfl⟩ : ∃ n, size = n + 1 := ⟨size - 1, by omega⟩
  rw [window_cons xs i n (by omega)]
  have hl : ((xs.drop (i + 1)).take n).length = n := by rw [List.length_take, List.length_drop]; omega
  have h2 := nextv_law (xs[i]'(by omega)) ((xs.drop (i + 1)).take n) (xs[i + (n + 1)])
  rw [hl] at h2
  rw [h2]
  rw [window_snoc xs (i + 1) n (by omega)]
  congr 3
  congr 1
  omega
end Gy
