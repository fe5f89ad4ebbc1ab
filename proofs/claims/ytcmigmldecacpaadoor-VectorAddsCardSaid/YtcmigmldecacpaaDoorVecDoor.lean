/- The walks over package vector: what is refused; whether all is 0, of [1] and of nothing; it is awake. -/
import Derived.Test.YtcmigmldecacpaaDoorVecMore
namespace Go.Proofs.YtcmigmldecacpaaDoor.Vec
open Go Go.RowKit Go.Proofs.YtcmigmldecacpaaDoorW.PrintWords Go.Proofs.YtcmigmldecacpaaDoorW.PrintMore

theorem axpy_apart (A0 : Option Addr) (n0 c0 : Nat) (A1 : Option Addr) (n1 c1 : Nat) (c : Int) (w : World) (h : n0 ≠ n1) :
    Calls Tryd.prog 8 #[.slice A0 n0 c0, .slice A1 n1 c1, .int .u8 c] w fun e w' => e = .returned (.tuple #[.slice none 0 0, .int .i64 1]) ∧ w = w' := by
  have t1 : ((n0 : Int) == (n1 : Int)) = false := by simp; omega
  have t2 : (n0 == n1) = false := by simp; exact h
  have t3 : ((n0 : Int) != (n1 : Int)) = true := by simp; omega
  clear h
  go_enter Tryd.func8, Tryd.ntmps8
  go_wp2
  go_ret2
  exact ⟨rfl, rfl⟩
theorem right_one (b cap : Nat) (w : World) (h : w.cell? ⟨b, 0, none⟩ = some (.int .u8 1)) :
    Calls Tryd.prog 31 #[.slice (some ⟨b, 0, none⟩) 1 cap, .int .u8 0] w fun e w' => e = .returned (.slice (some ⟨b, 0, none⟩) 1 cap) ∧ w = w' := by
  go_enter Tryd.func31, Tryd.ntmps31
  go_wp2
  refine wp_loop_rounds 1 ?_
  rw [rounds_succ]
  go_wp2
  go_ret
  exact ⟨rfl, rfl⟩
theorem left_one (b cap : Nat) (w : World) (h : w.cell? ⟨b, 0, none⟩ = some (.int .u8 1)) :
    Calls Tryd.prog 30 #[.slice (some ⟨b, 0, none⟩) 1 cap, .int .u8 0] w fun e w' => e = .returned (.slice (some ⟨b, 0, none⟩) 1 cap) ∧ w = w' := by
  go_enter Tryd.func30, Tryd.ntmps30
  go_wp2
  refine wp_loop_rounds 1 ?_
  rw [rounds_succ]
  go_wp2
  go_ret
  exact ⟨rfl, rfl⟩
theorem trim_nil (w : World) : Calls Tryd.prog 24 #[.slice none 0 0, .string ⟨#[0]⟩] w fun e w' => e = .returned (.slice none 0 0) ∧ w = w' := by
  go_enter Tryd.func24, Tryd.ntmps24
  go_wp2
  go_ret
  exact ⟨rfl, rfl⟩
set_option maxRecDepth 100000 in
theorem trim_one (b cap : Nat) (w : World) (h : w.cell? ⟨b, 0, none⟩ = some (.int .u8 1)) :
    Calls Tryd.prog 24 #[.slice (some ⟨b, 0, none⟩) 1 cap, .string ⟨#[0]⟩] w fun e w' => e = .returned (.slice (some ⟨b, 0, none⟩) 1 cap) ∧ ∃ n, w' = w.drewN n := by
  go_enter Tryd.func24, Tryd.ntmps24
  go_wp2
  go_quiet (first
    | ((go_at_call 31; refine Calls.quiet_of_same ((right_one b cap _ (by simpa using h)).mono fun _ _ h => ⟨h.1, h.2.symm⟩)))
    | ((go_at_call 30; refine Calls.quiet_of_same ((left_one b cap _ (by simpa using h)).mono fun _ _ h => ⟨h.1, h.2.symm⟩))))
  go_wp2
  go_ret
  exact ⟨rfl, _, rfl⟩
theorem zero_nil (w : World) : Calls Tryd.prog 12 #[.slice none 0 0] w fun e w' => e = .returned (.bool true) ∧ w = w' := by
  go_enter Tryd.func12, Tryd.ntmps12
  go_wp2_with (go_at_call 24; (with_reducible refine (trim_nil _).mono ?_); rintro e w1 ⟨rfl, rfl⟩)
  go_ret
  exact ⟨rfl, rfl⟩
theorem zero_one (b cap : Nat) (w : World) (h : w.cell? ⟨b, 0, none⟩ = some (.int .u8 1)) : Calls Tryd.prog 12 #[.slice (some ⟨b, 0, none⟩) 1 cap] w fun e w' => e = .returned (.bool false) ∧ Below w.heap.size w w' := by
  have H := Lib.hid (trim_one b cap w h)
  clear h
  go_enter Tryd.func12, Tryd.ntmps12
  go_wp2_with (go_at_call 24; (with_reducible refine H.out.mono ?_); rintro e w1 ⟨rfl, n, rfl⟩)
  go_ret
  exact ⟨rfl, pw_below_drewN (Below.refl _ _) n⟩
theorem one_cell (w : World) (f : Nat × Nat) : (w.alloc (.cells #[.int .u8 1] 5 f)).cell? ⟨w.heap.size, 0, none⟩ = some (.int .u8 1) := by
  have h := Gy.alloc_at w (.cells #[.int .u8 1] 5 f)
  unfold World.cell?
  simp only [h]
  rfl
theorem two_cell (w : World) : ((w.alloc (.cells #[.int .u8 1] 5)).alloc (.cells #[.int .u8 1] 5)).cell? ⟨w.heap.size + 1, 0, none⟩ = some (.int .u8 1) := by
  have h := one_cell (w.alloc (.cells #[.int .u8 1] 5)) (0, 0)
  rw [size_alloc] at h
  exact h
theorem two_below (w : World) (o o' : Obj) : Below w.heap.size w ((w.alloc o).alloc o') := (Gy.alloc_below w o).trans ((Gy.alloc_below _ o').mono (by rw [size_alloc]; omega))
set_option maxHeartbeats 1000000 in
theorem awake_calls (w : World) : Calls Tryd.prog 7 #[] w fun e w' => e = .returned (.bool true) ∧ Below w.heap.size w w' := by
  go_enter Tryd.func7, Tryd.ntmps7
  go_wp2_with (first
    | (go_at_call 8; (with_reducible refine (axpy_apart _ 0 _ _ 1 _ _ _ (by decide)).mono ?_); rintro e w1 ⟨rfl, rfl⟩)
    | (go_at_call 12; (with_reducible refine (zero_nil _).mono ?_); rintro e w1 ⟨rfl, rfl⟩)
    | (go_at_call 12; (with_reducible refine (zero_one _ _ _ (two_cell w)).mono ?_); rintro e w1 ⟨rfl, h1⟩; have H1 := Lib.hid h1; clear h1))
  go_ret
  exact ⟨rfl, (two_below w _ _).trans (H1.out.mono (two_below w _ _).size)⟩
end Go.Proofs.YtcmigmldecacpaaDoor.Vec
