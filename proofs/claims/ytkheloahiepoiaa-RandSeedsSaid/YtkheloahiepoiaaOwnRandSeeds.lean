/- Any ID's seed is what the document says; a nil Rand has nothing. No condition beyond the kinds of the arguments. -/
import Derived.Test.YtkheloahiepoiaaPRandSeedsx1
import Derived.Test.YtkheloahiepoiaaRand
namespace Go.Proofs.Ytkheloahiepoiaa.OwnRandSeeds
open Go Go.RowKit Go.Proofs.Ytkheloahiepoiaa.PRandSeeds Go.Proofs.YtkheloahiepoiaaW.PrintWords Go.Proofs.YtkheloahiepoiaaW.PrintLast Go.Proofs.Ytkheloahiepoiaa.Rand

theorem seed_f (k id : Nat) : rand_Seed.f k id = some (((id * 2654435761 + k * 40503) % 4294967296 : Nat) : Int) := by
  unfold rand_Seed.f
  congr 1
  omega
theorem rseed_f {k id : Nat} (hk : k < 65536) (hi : id < 4294967296) : geyserref03_Seed.f k id = some (((id * 2654435761 + k * 40503) % 4294967296 : Nat) : Int) := by
  unfold geyserref03_Seed.f
  rw [Gy.u64_wrap_id (n := (id : Int)) (by omega) (by omega), Gy.u64_wrap_id (n := (k : Int)) (by omega) (by omega), Gy.u64_wrap_id (n := (id : Int) * 2654435761) (by omega) (by omega),
    Gy.u64_wrap_id (n := (k : Int) * 40503) (by omega) (by omega), Gy.u64_wrap_id (by omega) (by omega), Int.tmod_eq_emod_of_nonneg (by omega)]
  congr 1
  omega
set_option maxHeartbeats 4000000 in
theorem walk (a0 a1 a2 : Int) (w : World) (w0 : (Lit.int .u16 a0).wf = true) (w1 : (Lit.int .u32 a1).wf = true) (_ : (Lit.int .i64 a2).wf = true) :
    Calls Try.prog 13 #[.int .u16 a0, .int .u32 a1, .int .i64 a2] w fun e w' => e = .returned (.bool true) ∧ Below w.heap.size w w' := by
  obtain ⟨k, rfl, hk⟩ := Gy.wf_u16 w0
  obtain ⟨id, rfl, hi⟩ := Gy.wf_u32 w1
  have A1 := Aside0.mk (seed_f k id)
  have A2 := Aside0.mk (rseed_f hk hi)
  clear w0 w1
  generalize (((id * 2654435761 + k * 40503) % 4294967296 : Nat) : Int) = t at *
  have ek : wrap64 (k : Int) = (k : Int) := Gy.wrap64_id (by omega) (by omega)
  have Ek := Aside0.mk ek
  clear hi ek
  generalize (id : Int) = id at *
  go_enter Try.func13, Try.ntmps13
  go_wp2_with (first
    | (go_at_call 36; (with_reducible refine (awake_calls _).mono ?_); rintro e w1 ⟨rfl, hb⟩)
    | (go_at_call 44; (with_reducible refine (rand_Seed.calls k id t _ A1.out).mono ?_); rintro e w2 ⟨rfl, ⟨nd, rfl⟩⟩)
    | (go_at_call 45; (with_reducible refine (geyserref03_Seed.calls k id t _ A2.out).mono ?_); rintro e w2 ⟨rfl, ⟨nd, rfl⟩⟩)
    | (go_at_call 40; (with_reducible refine (next_nil _).mono ?_); rintro e w3 ⟨rfl, h3⟩)
    | (go_at_call 41; (with_reducible refine (below_nil _ _).mono ?_); rintro e w4 ⟨rfl, h4⟩)
    | (go_at_call 42; (with_reducible refine (degree_nil _ _).mono ?_); rintro e w5 ⟨rfl, h5⟩))
  go_ret
  exact ⟨rfl, h5.below (h4.below (h3.below (by repeat (first | exact hb | apply pw_below_drewN | apply below_drew1))))⟩
end Go.Proofs.Ytkheloahiepoiaa.OwnRandSeeds
