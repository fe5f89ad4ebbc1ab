/- The walks over package rand's generator: a pointer to one number. -/
import Derived.Test.YtcmigmldecacpaaProg
import Derived.Test.YtcmigmldecacpaaZAid
import Derived.Test.YtcmigmldecacpaaZBt
import Derived.WalkKit
import Derived.RegionTactic
import Derived.BigRegion
import Derived.Below
import Derived.Lib.Hide
namespace Go.Proofs.Ytcmigmldecacpaa.Rand
open Go Go.RowKit

def rn1 (x : Int) : Int := Go.bits .xor .u32 x (x * 8192 % 4294967296)
def rn2 (x : Int) : Int := Go.bits .xor .u32 x (x / 131072)
def rn3 (x : Int) : Int := Go.bits .xor .u32 x (x * 32 % 4294967296)
def rn (x : Int) : Int := rn3 (rn2 (rn1 x))

set_option maxHeartbeats 4000000 in
theorem next_calls (b : Nat) (x : Int) (w : World) (hc : w.cell? ⟨b, 0, none⟩ = some (.int .u32 x)) (hf : w.frozen? ⟨b, 0, none⟩ = false) :
    Calls Try.prog 106 #[.pointer (some ⟨b, 0, none⟩)] w fun e w' => e = .returned (.int .u32 (rn x)) ∧ Gy.Sm w' (w.setCell ⟨b, 0, none⟩ (.int .u32 (rn x))) := by
  have h3 := Gy.cell_set hc (.int .u32 (rn3 (rn2 (rn1 x))))
  unfold rn3 rn2 rn1 at h3
  go_enter Try.func106, Try.ntmps106
  go_wp2
  go_region
  all_goals (try simp only [Gy.set_set])
  all_goals go_wp2
  all_goals go_region
  all_goals (try simp only [Gy.set_set])
  all_goals go_wp2
  all_goals go_region
  all_goals (try simp only [Gy.set_set])
  all_goals go_wp2
  all_goals go_ret
  all_goals exact ⟨rfl, rfl, rfl, rfl, rfl⟩
theorem next_nil (w : World) : Calls Try.prog 106 #[.pointer none] w fun e w' => e = .returned (.int .u32 0) ∧ Gy.Sm w' w := by
  go_enter Try.func106, Try.ntmps106
  go_wp2
  go_ret
  exact ⟨rfl, Gy.Sm.refl _⟩
theorem below_nil (n : Int) (w : World) : Calls Try.prog 102 #[.pointer none, .int .i64 n] w fun e w' => e = .returned (.int .i64 0) ∧ Gy.Sm w' w := by
  go_enter Try.func102, Try.ntmps102
  go_wp2
  go_ret
  exact ⟨rfl, Gy.Sm.refl _⟩
theorem degree_nil (n : Int) (w : World) : Calls Try.prog 101 #[.pointer none, .int .i64 n] w fun e w' => e = .returned (.int .i64 0) ∧ Gy.Sm w' w := by
  go_enter Try.func101, Try.ntmps101
  go_wp2
  go_ret
  exact ⟨rfl, Gy.Sm.refl _⟩
/-- the state of a seed -/
def rb (x : Int) : Int := if Go.bits .xor .u32 x 2654435769 = 0 then 1 else Go.bits .xor .u32 x 2654435769
/-- a new generator stands in w' -/
def Made (w w' : World) (x : Int) : Prop := w'.cell? ⟨w.heap.size, 0, none⟩ = some (.int .u32 x) ∧ w'.frozen? ⟨w.heap.size, 0, none⟩ = false ∧ Below w.heap.size w w' ∧ w.heap.size < w'.heap.size
theorem made_alloc (w : World) (x : Int) (t : TypeId) : Made w (w.alloc (.cells #[.int .u32 x] t)) x := by
  have e1 : (w.alloc (Obj.cells #[.int .u32 x] t)).heap[w.heap.size]? = some (Obj.cells #[.int .u32 x] t) := by
    show (w.heap.push _)[w.heap.size]? = _
    simp
  refine ⟨?_, ?_, (Below.refl _ _).alloc (Nat.le_refl _) _, by show w.heap.size < (w.heap.push _).size; simp⟩
  · unfold World.cell?; simp only [e1]; simp
  · unfold World.frozen?; simp only [e1]; simp
theorem new_calls (x : Int) (w : World) : Calls Try.prog 99 #[.int .u32 x] w fun e w' => e = .returned (.pointer (some ⟨w.heap.size, 0, none⟩)) ∧ Made w w' (rb x) := by
  unfold rb
  by_cases h : Go.bits .xor .u32 x 2654435769 = 0
  · rw [if_pos h]
    have h1 : (Go.bits .xor .u32 x 2654435769 == 0) = true := by simpa using h
    clear h
    go_enter Try.func99, Try.ntmps99
    go_wp2
    go_ret
    exact ⟨rfl, made_alloc w 1 _⟩
  · rw [if_neg h]
    have h1 : (Go.bits .xor .u32 x 2654435769 == 0) = false := by simpa using h
    clear h
    go_enter Try.func99, Try.ntmps99
    go_wp2
    go_ret
    exact ⟨rfl, made_alloc w _ _⟩
end Go.Proofs.Ytcmigmldecacpaa.Rand
