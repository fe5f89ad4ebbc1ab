/- Products are the same in any order, and of sums the sums of products. No condition beyond the kinds of the arguments. -/
import Derived.Test.YtkheloahiepoiaaPFieldMulsx1
import Derived.Test.YtkheloahiepoiaaGf
import Derived.Test.YtkheloahiepoiaaBt
import Derived.Test.YtkheloahiepoiaaPureFieldMuls
namespace Go.Proofs.Ytkheloahiepoiaa.OwnFieldLaws
open Go Go.RowKit Go.Proofs.Ytkheloahiepoiaa.PFieldMuls Go.Proofs.YtkheloahiepoiaaW.PrintWords Go.Proofs.YtkheloahiepoiaaW.PrintLast Go.Proofs.Ytkheloahiepoiaa.Pure

set_option maxHeartbeats 8000000 in
set_option maxRecDepth 100000 in
theorem law_calls (a b c : Nat) (ha : a < 256) (hb : b < 256) (hc : c < 256) (w : World) :
    Calls Try.prog 6 #[.int .u8 a, .int .u8 b, .int .u8 c] w fun e w' => e = .returned (.bool true) ∧ Drawn0 w w' := by
  obtain ⟨k, hk⟩ : ∃ k : Nat, 20 ≤ k := ⟨20, Nat.le_refl _⟩
  have hab := Gy.gmul_lt ha hb
  have hac := Gy.gmul_lt ha hc
  have hbc := Gy.gmul_lt hb hc
  have hx := Gy.xor_lt8 hb hc
  have A0 := Aside0.mk (fawake (k := k) (by omega))
  have B1 := fmul (k := k) (by omega) hb hc
  have B2 := fmul (k := k) (by omega) ha hbc
  have B3 := fmul (k := k) (by omega) ha hb
  have B4 := fmul (k := k) (by omega) hab hc
  have B5 := fmul (k := k) (by omega) hb ha
  have B6 : field_Add.f b c = some ((b ^^^ c : Nat) : Int) := by unfold field_Add.f; rw [u8_xor_nat b c hb hc]
  have B7 := fmul (k := k) (by omega) ha hx
  have B8 := fmul (k := k) (by omega) ha hc
  have B9 : field_Add.f (Gy.gmul a b : Nat) (Gy.gmul a c : Nat) = some ((Gy.gmul a b ^^^ Gy.gmul a c : Nat) : Int) := by unfold field_Add.f; rw [u8_xor_nat _ _ hab hac]
  have e1 : ((Gy.gmul a (Gy.gmul b c) : Nat) : Int) = ((Gy.gmul (Gy.gmul a b) c : Nat) : Int) := by rw [Gy.gmul_assoc ha hb]
  have e2 : ((Gy.gmul a b : Nat) : Int) = ((Gy.gmul b a : Nat) : Int) := by rw [Gy.gmul_comm ha hb]
  have e3 : ((Gy.gmul a (b ^^^ c) : Nat) : Int) = ((Gy.gmul a b ^^^ Gy.gmul a c : Nat) : Int) := by rw [Gy.gmul_xor_right hb hc ha]
  clear hab hac hbc hx ha hb hc hk
  generalize ((Gy.gmul a (Gy.gmul b c) : Nat) : Int) = t2 at *
  generalize ((Gy.gmul (Gy.gmul a b) c : Nat) : Int) = t4 at *
  generalize ((Gy.gmul a (b ^^^ c) : Nat) : Int) = t7 at *
  generalize ((Gy.gmul a b ^^^ Gy.gmul a c : Nat) : Int) = t9 at *
  generalize ((Gy.gmul b c : Nat) : Int) = t1 at *
  generalize ((Gy.gmul a b : Nat) : Int) = t3 at *
  generalize ((Gy.gmul a c : Nat) : Int) = t8 at *
  generalize ((Gy.gmul b a : Nat) : Int) = t5 at *
  generalize ((b ^^^ c : Nat) : Int) = t6 at *
  generalize (a : Int) = a at *
  generalize (b : Int) = b at *
  generalize (c : Int) = c at *
  have c1 : (t2 == t4) = true := beq_iff_eq.mpr e1
  have c2 : (t3 == t5) = true := beq_iff_eq.mpr e2
  have c3 : (t7 == t9) = true := beq_iff_eq.mpr e3
  have A1 := Aside0.mk B1
  have A2 := Aside0.mk B2
  have A3 := Aside0.mk B3
  have A4 := Aside0.mk B4
  have A5 := Aside0.mk B5
  have A6 := Aside0.mk B6
  have A7 := Aside0.mk B7
  have A8 := Aside0.mk B8
  have A9 := Aside0.mk B9
  clear B1 B2 B3 B4 B5 B6 B7 B8 B9 e1 e2 e3
  go_enter Try.func6, Try.ntmps6
  go_wp2_with (first
    | (go_at_call 20; (with_reducible refine (geyserlaw03_awake.calls k true _ A0.out).mono ?_); rintro e w' ⟨rfl, ⟨nd, rfl⟩⟩)
    | (go_at_call 22; (with_reducible refine (field_Mul.calls k b c t1 _ A1.out).mono ?_); rintro e w' ⟨rfl, ⟨nd, rfl⟩⟩)
    | (go_at_call 22; (with_reducible refine (field_Mul.calls k a t1 t2 _ A2.out).mono ?_); rintro e w' ⟨rfl, ⟨nd, rfl⟩⟩)
    | (go_at_call 22; (with_reducible refine (field_Mul.calls k a b t3 _ A3.out).mono ?_); rintro e w' ⟨rfl, ⟨nd, rfl⟩⟩)
    | (go_at_call 22; (with_reducible refine (field_Mul.calls k t3 c t4 _ A4.out).mono ?_); rintro e w' ⟨rfl, ⟨nd, rfl⟩⟩)
    | (go_at_call 22; (with_reducible refine (field_Mul.calls k b a t5 _ A5.out).mono ?_); rintro e w' ⟨rfl, ⟨nd, rfl⟩⟩)
    | (go_at_call 21; (with_reducible refine (field_Add.calls b c t6 _ A6.out).mono ?_); rintro e w' ⟨rfl, ⟨nd, rfl⟩⟩)
    | (go_at_call 22; (with_reducible refine (field_Mul.calls k a t6 t7 _ A7.out).mono ?_); rintro e w' ⟨rfl, ⟨nd, rfl⟩⟩)
    | (go_at_call 22; (with_reducible refine (field_Mul.calls k a c t8 _ A8.out).mono ?_); rintro e w' ⟨rfl, ⟨nd, rfl⟩⟩)
    | (go_at_call 21; (with_reducible refine (field_Add.calls t3 t8 t9 _ A9.out).mono ?_); rintro e w' ⟨rfl, ⟨nd, rfl⟩⟩))
  go_ret
  exact ⟨by first | rfl | (simp; done) | (simp [*]; done), by repeat (first | exact Drawn0.refl _ | apply Drawn0.step)⟩

theorem walk (a0 a1 a2 : Int) (w : World) (w0 : (Lit.int .u8 a0).wf = true) (w1 : (Lit.int .u8 a1).wf = true) (w2 : (Lit.int .u8 a2).wf = true) :
    Calls Try.prog 6 #[.int .u8 a0, .int .u8 a1, .int .u8 a2] w fun e w' => e = .returned (.bool true) ∧ Below w.heap.size w w' := by
  obtain ⟨a, rfl, ha⟩ := Gy.wf_u8 w0
  obtain ⟨b, rfl, hb⟩ := Gy.wf_u8 w1
  obtain ⟨c, rfl, hc⟩ := Gy.wf_u8 w2
  refine (law_calls a b c ha hb hc w).mono ?_
  rintro e w' ⟨rfl, hd⟩
  exact ⟨rfl, hd.below⟩
end Go.Proofs.Ytkheloahiepoiaa.OwnFieldLaws
