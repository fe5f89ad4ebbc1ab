/- The walks over package rand's generator: a pointer to one number. -/
import Derived.Test.YtkheloahiepoiaaProg
import Derived.Test.YtkheloahiepoiaaAid
import Derived.Test.YtkheloahiepoiaaBt
import Derived.WalkKit
import Derived.RegionTactic
import Derived.BigRegion
import Derived.Below
import Derived.Lib.Hide
namespace Go.Proofs.Ytkheloahiepoiaa.Rand
open Go Go.RowKit

def rn1 (x : Int) : Int := Go.bits .xor .u32 x (x * 8192 % 4294967296)
def rn2 (x : Int) : Int := Go.bits .xor .u32 x (x / 131072)
def rn3 (x : Int) : Int := Go.bits .xor .u32 x (x * 32 % 4294967296)
def rn (x : Int) : Int := rn3 (rn2 (rn1 x))

set_option maxHeartbeats 4000000 in
theorem next_calls (b : Nat) (x : Int) (w : World) (hc : w.cell? ⟨b, 0, none⟩ = some (.int .u32 x)) (hf : w.frozen? ⟨b, 0, none⟩ = false) :
    Calls Try.prog 40 #[.pointer (some ⟨b, 0, none⟩)] w fun e w' => e = .returned (.int .u32 (rn x)) ∧ Gy.Sm w' (w.setCell ⟨b, 0, none⟩ (.int .u32 (rn x))) := by
  have h3 := Gy.cell_set hc (.int .u32 (rn3 (rn2 (rn1 x))))
  unfold rn3 rn2 rn1 at h3
  go_enter Try.func40, Try.ntmps40
  go_wp2
  go_region
  all_goals (try simp only [Gy.set_set])
  all_goals go_wp2
  all_goals go_region
  all_goals (try simp only [Gy.set_set])
  all_goals go_wp2
  all_goals go_region
  all_goals (try simp only [Gy.set_set])
  all_goals go_wp2
  all_goals go_ret
  all_goals exact ⟨rfl, rfl, rfl, rfl, rfl⟩
theorem next_nil (w : World) : Calls Try.prog 40 #[.pointer none] w fun e w' => e = .returned (.int .u32 0) ∧ Gy.Sm w' w := by
  go_enter Try.func40, Try.ntmps40
  go_wp2
  go_ret
  exact ⟨rfl, Gy.Sm.refl _⟩
theorem below_nil (n : Int) (w : World) : Calls Try.prog 41 #[.pointer none, .int .i64 n] w fun e w' => e = .returned (.int .i64 0) ∧ Gy.Sm w' w := by
  go_enter Try.func41, Try.ntmps41
  go_wp2
  go_ret
  exact ⟨rfl, Gy.Sm.refl _⟩
theorem degree_nil (n : Int) (w : World) : Calls Try.prog 42 #[.pointer none, .int .i64 n] w fun e w' => e = .returned (.int .i64 0) ∧ Gy.Sm w' w := by
  go_enter Try.func42, Try.ntmps42
  go_wp2
  go_ret
  exact ⟨rfl, Gy.Sm.refl _⟩
/-- the state of a seed -/
def rb (x : Int) : Int := if Go.bits .xor .u32 x 2654435769 = 0 then 1 else Go.bits .xor .u32 x 2654435769
/-- a new generator stands in w' -/
def Made (w w' : World) (x : Int) : Prop := w'.cell? ⟨w.heap.size, 0, none⟩ = some (.int .u32 x) ∧ w'.frozen? ⟨w.heap.size, 0, none⟩ = false ∧ Below w.heap.size w w' ∧ w.heap.size < w'.heap.size
theorem made_alloc (w : World) (x : Int) (t : TypeId) : Made w (w.alloc (.cells #[.int .u32 x] t)) x := by
  have e1 : (w.alloc (Obj.cells #[.int .u32 x] t)).heap[w.heap.size]? = some (Obj.cells #[.int .u32 x] t) := by
    show (w.heap.push _)[w.heap.size]? = _
    simp
  refine ⟨?_, ?_, (Below.refl _ _).alloc (Nat.le_refl _) _, by show w.heap.size < (w.heap.push _).size; simp⟩
  · unfold World.cell?; simp only [e1]; simp
  · unfold World.frozen?; simp only [e1]; simp
theorem new_calls (x : Int) (w : World) : Calls Try.prog 37 #[.int .u32 x] w fun e w' => e = .returned (.pointer (some ⟨w.heap.size, 0, none⟩)) ∧ Made w w' (rb x) := by
  unfold rb
  by_cases h : Go.bits .xor .u32 x 2654435769 = 0
  · rw [if_pos h]
    have h1 : (Go.bits .xor .u32 x 2654435769 == 0) = true := by simpa using h
    clear h
    go_enter Try.func37, Try.ntmps37
    go_wp2
    go_ret
    exact ⟨rfl, made_alloc w 1 _⟩
  · rw [if_neg h]
    have h1 : (Go.bits .xor .u32 x 2654435769 == 0) = false := by simpa using h
    clear h
    go_enter Try.func37, Try.ntmps37
    go_wp2
    go_ret
    exact ⟨rfl, made_alloc w _ _⟩
theorem awake_calls (w : World) : Calls Try.prog 36 #[] w fun e w' => e = .returned (.bool true) ∧ Below w.heap.size w w' := by
  have h1 : (rn (rb 2654435769) == 270369) = true := by decide +kernel
  go_enter Try.func36, Try.ntmps36
  go_wp2_with (first
    | (go_at_call 37; (with_reducible refine (new_calls 2654435769 _).mono ?_); rintro e w1 ⟨rfl, hm⟩; have hc := hm.1; have hf := hm.2.1; have hb := Lib.hid hm; clear hm)
    | (go_at_call 40; (with_reducible refine (next_calls _ _ _ hc hf).mono ?_); rintro e w2 ⟨rfl, hs⟩))
  go_ret
  exact ⟨rfl, hs.below (hb.out.2.2.1.setCell (Nat.le_refl _) _)⟩
end Go.Proofs.Ytkheloahiepoiaa.Rand
