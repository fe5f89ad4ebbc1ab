/- Functions that the printer does not print, in the form in which it asks for them: a copy of bytes, so much of a vector and another one, so much of a vector. -/
import Derived.Test.YtcmigmldecacpaaZVecMore
namespace Go.Proofs.Ytcmigmldecacpaa.Giv
open Go Go.RowKit Go.Proofs.YtcmigmldecacpaaW.PrintWords Go.Proofs.YtcmigmldecacpaaW.PrintLast Go.Proofs.YtcmigmldecacpaaW.PrintMore Go.Proofs.Ytcmigmldecacpaa.Vec

theorem R_bytes {w : World} {base : Nat} {v : Value} {xs : List Int} (h : w.ownsRow base 5 1 v xs.length (nums .u8 xs)) : Kd.R (Kd.int .u8) 5 w base (fun _ => True) v xs :=
  ⟨fun _ _ => trivial, _, h, Kd.reps_scalar xs⟩
/-- a row of one's own, as an element -/
theorem FK_own {α : Type} {d : Kd α} {e base : Nat} {w : World} {ok : Nat → Prop} {v : Value} {xs : List α} (h : d.R e w base ok v xs) : Kd.FK (Kd.slice e d) w ok xs [v] := by
  obtain ⟨A, c, rfl⟩ := Kd.R_slice h
  exact Kd.FK_slice_mk (Kd.R_reads' h).2.1 (Kd.R_F h)
theorem below_cell {w w' : World} {a : Addr} {u : Value} (hb : Below w.heap.size w w') (h : w.cell? a = some u) : w'.cell? a = some u := by
  have hlt : a.block < w.heap.size := by
    rcases Nat.lt_or_ge a.block w.heap.size with h' | h'
    · exact h'
    · simp [World.cell?, Array.getElem?_eq_none h'] at h
  rw [hb.cell hlt]; exact h
def okB (l : List Int) : Bool := l.all fun x => decide (0 ≤ x) && decide (x < 256)
theorem okB_by {l : List Int} (h : okB l = true) : By l := by
  intro x hx
  have := List.all_eq_true.1 h x hx
  simp only [Bool.and_eq_true, decide_eq_true_eq] at this
  exact this
theorem by_okB {l : List Int} (h : By l) : okB l = true := by
  refine List.all_eq_true.2 fun x hx => ?_
  have := h x hx
  simp only [Bool.and_eq_true, decide_eq_true_eq]
  exact this
/-! ### bytes.Clone -/
def bytes_Clone.f (l0 : List Int) : Option (List Int) := if l0.length ≤ 100000 then some l0 else none
theorem bytes_Clone.calls (A0 : Option Addr) (c0 : Nat) (l0 r : List Int) (w : World) (hr0 : Kd.C (Kd.int .u8) w A0 l0.length l0) (_hc0 : l0.length ≤ c0) (h : bytes_Clone.f l0 = some r) :
    Calls Try.prog 51 #[.slice A0 l0.length c0] w fun e w' => ∃ v0_ : Value, e = .returned (v0_) ∧ Kd.R (Kd.int .u8) 5 w' w.heap.size (fun _ => True) v0_ r ∧ Below w.heap.size w w' := by
  unfold bytes_Clone.f at h
  split at h
  · obtain rfl := Option.some.inj h
    refine (clone_calls A0 l0.length c0 l0 w (Gy.reads_of_kd hr0) (by omega)).mono ?_
    rintro e w' ⟨v, rfl, ho, hb⟩
    exact ⟨v, rfl, R_bytes ho, hb⟩
  · cases h
/-! ### vector.Axpy, vector.Scale -/
def vector_Axpy.f (l0 l1 : List Int) (a2 : Int) : Option (List Int × Int) :=
  if l0.length = l1.length then (if l0.length ≤ 100000 ∧ okB l0 = true ∧ okB l1 = true ∧ 0 ≤ a2 ∧ a2 < 256 then some (plusL l0 l1 a2.toNat, 0) else none) else some ([], 1)
theorem axpy_apart (A0 : Option Addr) (n0 c0 : Nat) (A1 : Option Addr) (n1 c1 : Nat) (c : Int) (w : World) (h : n0 ≠ n1) :
    Calls Try.prog 54 #[.slice A0 n0 c0, .slice A1 n1 c1, .int .u8 c] w fun e w' => e = .returned (.tuple #[.slice none 0 0, .int .i64 1]) ∧ w = w' := by
  have t1 : ((n0 : Int) == (n1 : Int)) = false := by simp; omega
  have t2 : (n0 == n1) = false := by simp; exact h
  have t3 : ((n0 : Int) != (n1 : Int)) = true := by simp; omega
  clear h
  go_enter Try.func54, Try.ntmps54
  go_wp2
  go_ret2
  exact ⟨rfl, rfl⟩
theorem vector_Axpy.calls (A0 : Option Addr) (c0 : Nat) (l0 : List Int) (A1 : Option Addr) (c1 : Nat) (l1 : List Int) (a2 : Int) (r1 : List Int) (r2 : Int) (w : World) (hr0 : Kd.C (Kd.int .u8) w A0 l0.length l0) (_hc0 : l0.length ≤ c0) (hr1 : Kd.C (Kd.int .u8) w A1 l1.length l1) (_hc1 : l1.length ≤ c1) (h : vector_Axpy.f l0 l1 a2 = some (r1, r2)) :
    Calls Try.prog 54 #[.slice A0 l0.length c0, .slice A1 l1.length c1, .int .u8 a2] w fun e w' => ∃ v0_ : Value, e = .returned (.tuple #[v0_, .int .i64 r2]) ∧ Kd.R (Kd.int .u8) 5 w' w.heap.size (fun _ => True) v0_ r1 ∧ Below w.heap.size w w' := by
  unfold vector_Axpy.f at h
  split at h
  · rename_i hl
    split at h
    · rename_i hc
      obtain ⟨h1, h2, h3, h4, h5⟩ := hc
      obtain ⟨rfl, rfl⟩ := Prod.mk.inj (Option.some.inj h)
      obtain ⟨c, rfl⟩ : ∃ c : Nat, a2 = c := ⟨a2.toNat, by omega⟩
      rw [Int.toNat_natCast]
      have k1 := Gy.reads_of_kd hr1
      rw [← hl] at k1 ⊢
      refine (axpy_calls A0 c0 A1 c1 l0.length c l0 l1 w (Gy.reads_of_kd hr0) k1 (okB_by h2) (okB_by h3) (by omega) h1).mono ?_
      rintro e w' ⟨A', c', rfl, hm⟩
      have hpl := plusL_length hl.symm c
      refine ⟨_, rfl, R_bytes ?_, hm.2⟩
      have := hm.1
      rw [hpl]
      exact this
    · cases h
  · rename_i hl
    obtain ⟨rfl, rfl⟩ := Prod.mk.inj (Option.some.inj h)
    refine (axpy_apart A0 _ c0 A1 _ c1 a2 w hl).mono ?_
    rintro e w' ⟨rfl, rfl⟩
    exact ⟨_, rfl, Kd.R_nil _ _ _ _ _, Below.refl _ _⟩
def vector_Scale.f (l0 : List Int) (a1 : Int) : Option (List Int) :=
  if l0.length ≤ 100000 ∧ okB l0 = true ∧ 0 ≤ a1 ∧ a1 < 256 then some (scaleL l0 a1.toNat) else none
theorem scaleL_length (a : List Int) (c : Nat) : (scaleL a c).length = a.length := by unfold scaleL; rw [List.length_zipWith]; omega
theorem vector_Scale.calls (A0 : Option Addr) (c0 : Nat) (l0 : List Int) (a1 : Int) (r : List Int) (w : World) (hr0 : Kd.C (Kd.int .u8) w A0 l0.length l0) (_hc0 : l0.length ≤ c0) (h : vector_Scale.f l0 a1 = some r) :
    Calls Try.prog 53 #[.slice A0 l0.length c0, .int .u8 a1] w fun e w' => ∃ v0_ : Value, e = .returned (v0_) ∧ Kd.R (Kd.int .u8) 5 w' w.heap.size (fun _ => True) v0_ r ∧ Below w.heap.size w w' := by
  unfold vector_Scale.f at h
  split at h
  · rename_i hc
    obtain ⟨h1, h2, h4, h5⟩ := hc
    obtain rfl := Option.some.inj h
    obtain ⟨c, rfl⟩ : ∃ c : Nat, a1 = c := ⟨a1.toNat, by omega⟩
    rw [Int.toNat_natCast]
    refine (scale_calls A0 c0 l0.length c l0 w (Gy.reads_of_kd hr0) (okB_by h2) (by omega) h1).mono ?_
    rintro e w' ⟨A', c', rfl, hm⟩
    refine ⟨_, rfl, R_bytes ?_, hm.2⟩
    have := hm.1
    rw [scaleL_length]
    exact this
  · cases h
end Go.Proofs.Ytcmigmldecacpaa.Giv
