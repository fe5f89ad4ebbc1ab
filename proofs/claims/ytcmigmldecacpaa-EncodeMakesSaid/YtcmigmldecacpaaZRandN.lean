/- The generator's numbers as natural ones. -/
import Derived.Test.YtcmigmldecacpaaZDeg
namespace Go.Proofs.Ytcmigmldecacpaa.Rand
open Go Go.RowKit

theorem xor_lt32' {a b : Nat} (ha : a < 4294967296) (hb : b < 4294967296) : a ^^^ b < 4294967296 := Nat.xor_lt_two_pow (n := 32) ha hb
def rnN (X : Nat) : Nat := (rn (X : Int)).toNat
theorem rn_cast {X : Nat} (h : X < 4294967296) : rn (X : Int) = ((rnN X : Nat) : Int) ∧ rnN X < 4294967296 := by
  obtain ⟨A, hA⟩ : ∃ A : Nat, A = X ^^^ (X * 8192 % 4294967296) := ⟨_, rfl⟩
  obtain ⟨B, hB⟩ : ∃ B : Nat, B = A ^^^ (A / 131072) := ⟨_, rfl⟩
  obtain ⟨C, hC⟩ : ∃ C : Nat, C = B ^^^ (B * 32 % 4294967296) := ⟨_, rfl⟩
  have lA : A < 4294967296 := by rw [hA]; exact xor_lt32' h (by omega)
  have lB : B < 4294967296 := by rw [hB]; exact xor_lt32' lA (by omega)
  have lC : C < 4294967296 := by rw [hC]; exact xor_lt32' lB (by omega)
  have e1 : rn1 X = A := by
    unfold rn1
    rw [show ((X : Int) * 8192 % 4294967296) = ((X * 8192 % 4294967296 : Nat) : Int) from by omega, u32_xor_nat _ _ h (by omega), hA]
  have e2 : rn2 A = B := by
    unfold rn2
    rw [show ((A : Int) / 131072) = ((A / 131072 : Nat) : Int) from by omega, u32_xor_nat _ _ lA (by omega), hB]
  have e3 : rn3 B = C := by
    unfold rn3
    rw [show ((B : Int) * 32 % 4294967296) = ((B * 32 % 4294967296 : Nat) : Int) from by omega, u32_xor_nat _ _ lB (by omega), hC]
  have e : rn (X : Int) = (C : Int) := by unfold rn; rw [e1, e2, e3]
  have e' : rnN X = C := by unfold rnN; rw [e]; rfl
  rw [e']
  exact ⟨e, lC⟩
def rbN (X : Nat) : Nat := (rb (X : Int)).toNat
theorem rb_cast {X : Nat} (h : X < 4294967296) : rb (X : Int) = ((rbN X : Nat) : Int) ∧ rbN X < 4294967296 := by
  have e1 : Go.bits .xor .u32 (X : Int) 2654435769 = ((X ^^^ 2654435769 : Nat) : Int) := u32_xor_nat X 2654435769 h (by omega)
  have hl := xor_lt32' h (show 2654435769 < 4294967296 by omega)
  have key : ∃ Y : Nat, rb (X : Int) = (Y : Int) ∧ Y < 4294967296 := by
    unfold rb
    rw [e1]
    by_cases h0 : X ^^^ 2654435769 = 0
    · exact ⟨1, by rw [if_pos (by omega)]; rfl, by omega⟩
    · exact ⟨_, by rw [if_neg (by omega)], hl⟩
  obtain ⟨Y, h1, h2⟩ := key
  have e' : rbN X = Y := by unfold rbN; rw [h1]; rfl
  rw [e']
  exact ⟨h1, h2⟩
end Go.Proofs.Ytcmigmldecacpaa.Rand
