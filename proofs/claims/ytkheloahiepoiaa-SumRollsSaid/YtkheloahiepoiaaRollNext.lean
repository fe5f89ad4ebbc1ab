/- The walks over package sum: a Roller rolls on. -/
import Derived.Test.YtkheloahiepoiaaRollNew
namespace Go.Proofs.Ytkheloahiepoiaa.Rolls
open Go Go.RowKit Go.Proofs.YtkheloahiepoiaaW.PrintWords Go.Proofs.YtkheloahiepoiaaW.PrintMore

theorem outv_lt (size o : Nat) (h : o < 256) : Gy.outv size o < 4294967296 := by
  unfold Gy.outv
  have hz : ∀ x ∈ Gy.zeros size, 0 ≤ x ∧ x < 256 := by
    intro x hx
    unfold Gy.zeros at hx
    have := List.eq_of_mem_replicate hx
    omega
  refine Gy.xor_lt32 (Gy.crc_lt _ ?_) (Gy.crc_lt _ hz)
  intro x hx
  rcases List.mem_cons.1 hx with rfl | hx
  · omega
  · exact hz x hx
theorem next_nil (c o i : Int) (w : World) : Calls Try.prog 35 #[.pointer none, .int .u32 c, .int .u8 o, .int .u8 i] w fun e w' => e = .returned (.int .u32 0) ∧ w = w' := by
  go_enter Try.func35, Try.ntmps35
  go_wp2
  go_ret
  exact ⟨rfl, rfl⟩
set_option maxHeartbeats 2000000 in
set_option maxRecDepth 100000 in
theorem next_calls (g size c o i : Nat) (w : World) (hR : RollAt w g size 256 256) (hc : c < 4294967296) (ho : o < 256) (hi : i < 256) :
    Calls Try.prog 35 #[.pointer (some ⟨g, 0, none⟩), .int .u32 c, .int .u8 o, .int .u8 i] w fun e w' => e = .returned (.int .u32 (Gy.nextv size c o i : Nat)) ∧ w = w' := by
  obtain ⟨m, hm⟩ : ∃ m, m = 4294967295 ^^^ c := ⟨_, rfl⟩
  obtain ⟨q, hq⟩ : ∃ q, q = m % 256 ^^^ i := ⟨_, rfl⟩
  obtain ⟨t, ht⟩ : ∃ t, t = Gy.cturn 8 q := ⟨_, rfl⟩
  obtain ⟨r, hr⟩ : ∃ r, r = (m / 256) ^^^ t := ⟨_, rfl⟩
  obtain ⟨s, hs⟩ : ∃ s, s = 4294967295 ^^^ r := ⟨_, rfl⟩
  obtain ⟨u, hu⟩ : ∃ u, u = Gy.outv size o := ⟨_, rfl⟩
  have lm : m < 4294967296 := by rw [hm]; exact Gy.xor_lt32 (by omega) hc
  have lq : q < 256 := by rw [hq]; exact Nat.xor_lt_two_pow (n := 8) (by omega) (by omega)
  have lt' : t < 4294967296 := by rw [ht]; exact Gy.cturn_lt 8 _ (by omega)
  have lr : r < 4294967296 := by rw [hr]; exact Gy.xor_lt32 (by omega) lt'
  have ls : s < 4294967296 := by rw [hs]; exact Gy.xor_lt32 (by omega) lr
  have lu : u < 4294967296 := by rw [hu]; exact outv_lt size o ho
  have f1 : Go.bits .xor .u32 IntKind.u32.max (c : Int) = (m : Int) := by rw [hm]; exact Go.u32_xor_nat 4294967295 c (by omega) hc
  have f2 : Go.bits .xor .u8 ((m : Int) % 256) (i : Int) = (q : Int) := by
    rw [hq, show (m : Int) % 256 = ((m % 256 : Nat) : Int) from by omega]; exact Go.u8_xor_nat _ _ (by omega) (by omega)
  have f2r : Go.bits .xor .u8 (Go.bits .xor .u32 IntKind.u32.max (c : Int) % 256) (i : Int) = (q : Int) := by rw [f1]; exact f2
  have f3 : Go.bits .xor .u32 ((m : Int) / 256) (t : Int) = (r : Int) := by
    rw [hr, show (m : Int) / 256 = ((m / 256 : Nat) : Int) from by omega]; exact Go.u32_xor_nat _ _ (by omega) lt'
  have f4 : Go.bits .xor .u32 IntKind.u32.max (r : Int) = (s : Int) := by rw [hs]; exact Go.u32_xor_nat 4294967295 r (by omega) lr
  have f5 : Go.bits .xor .u32 (s : Int) (u : Int) = ((s ^^^ u : Nat) : Int) := Go.u32_xor_nat _ _ ls lu
  have c1 : w.cell? ⟨g, 256 + q, none⟩ = some (.int .u32 (t : Int)) := by
    rw [hR.inn q lq, if_pos lq, ht]
  have c2 : w.cell? ⟨g, o, none⟩ = some (.int .u32 (u : Int)) := by
    rw [hR.out o ho, if_pos ho, hu]
  have hv : Gy.nextv size c o i = s ^^^ u := by
    unfold Gy.nextv
    rw [Int.toNat_natCast, ← hm, ← hq, ← ht, ← hr, ← hs, ← hu]
  rw [hv]
  clear hR hm hq ht hr hs hu hc hi lm lt' lr ls lu hv
  go_enter Try.func35, Try.ntmps35
  go_wp2
  go_ret
  exact ⟨rfl, rfl⟩
theorem info_u8 : (Try.prog.info? 5).map (fun i => (i.zero, i.size, i.bytes)) = some (some (.int .u8 0), 1, 1) := by kernel_rfl
theorem newroller_bad (size : Int) (w : World) (h : size < 1 ∨ 256 < size) :
    Calls Try.prog 34 #[.int .i64 size] w fun e w' => e = .returned (.pointer none) ∧ w = w' := by
  by_cases h1 : size < 1
  · have t1 : decide (size < 1) = true := by simp [h1]
    clear h h1
    go_enter Try.func34, Try.ntmps34
    go_wp2
    go_ret
    exact ⟨rfl, rfl⟩
  · have t1 : decide (size < 1) = false := by simp [h1]
    have t2 : decide (256 < size) = true := by simp; omega
    clear h h1
    go_enter Try.func34, Try.ntmps34
    go_wp2
    go_ret
    exact ⟨rfl, rfl⟩
end Go.Proofs.Ytkheloahiepoiaa.Rolls
