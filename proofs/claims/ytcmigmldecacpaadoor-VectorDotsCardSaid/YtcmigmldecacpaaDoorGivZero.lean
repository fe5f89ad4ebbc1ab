/- Whether all is 0: bytes.Trim at the cutset of one byte, and vector.Zero, vector.Dot, in the form in which the printer asks for them. -/
import Derived.Test.YtcmigmldecacpaaDoorGiv
import Derived.Test.YtcmigmldecacpaaDoorVecDot
import Derived.Test.YtcmigmldecacpaaDoorQTrimx
namespace Go.Proofs.YtcmigmldecacpaaDoor.Giv
open Go Go.RowKit Go.Proofs.YtcmigmldecacpaaDoorW.PrintWords Go.Proofs.YtcmigmldecacpaaDoorW.PrintLast Go.Proofs.YtcmigmldecacpaaDoorW.PrintMore Go.Proofs.YtcmigmldecacpaaDoor.Vec Go.Proofs.YtcmigmldecacpaaDoor.QTrim

/-- all is 0 -/
def Nought (xs : List Int) : Prop := ∀ x ∈ xs, x = 0
theorem left_l0 : ∀ (n : Nat) (xs : List Int), xs.length ≤ n → ∃ r, bytes_trimLeftByte.l0 (n + 1) xs 0 = some r ∧ (Nought xs ↔ r = []) := by
  intro n
  induction n with
  | zero =>
    intro xs h
    obtain rfl : xs = [] := List.eq_nil_of_length_eq_zero (by omega)
    exact ⟨[], by simp [bytes_trimLeftByte.l0], ⟨fun _ => rfl, fun _ x hx => by cases hx⟩⟩
  | succ n ih =>
    intro xs h
    cases xs with
    | nil => exact ⟨[], by simp [bytes_trimLeftByte.l0], ⟨fun _ => rfl, fun _ x hx => by cases hx⟩⟩
    | cons x xs =>
      have hl : (((x :: xs).length : Nat) : Int) = (xs.length : Int) + 1 := by rw [List.length_cons]; omega
      simp only [bytes_trimLeftByte.l0]
      rw [if_pos (by omega), if_pos (by omega)]
      have e0 : rd (x :: xs) 0 = x := by simp [rd]
      rw [e0]
      by_cases h0 : x = 0
      · obtain ⟨r, h1, h2⟩ := ih xs (by simp at h; omega)
        rw [if_pos h0, if_pos (by omega)]
        refine ⟨r, h1, ?_⟩
        rw [← h2]
        constructor
        · intro h x hx; exact h x (List.mem_cons_of_mem _ hx)
        · intro h y hy
          rcases List.mem_cons.1 hy with e | e
          · rw [e]; exact h0
          · exact h y e
      · rw [if_neg h0, if_neg (by omega)]
        exact ⟨_, rfl, ⟨fun h => absurd (h x List.mem_cons_self) h0, fun h => by cases h⟩⟩
theorem right_l0 : ∀ (n : Nat) (xs : List Int), xs.length ≤ n → n ≤ 9223372036854775807 → ∃ r, bytes_trimRightByte.l0 (n + 1) xs 0 = some r ∧ (Nought xs ↔ Nought r) ∧ r.length ≤ xs.length := by
  intro n
  induction n with
  | zero =>
    intro xs h _
    obtain rfl : xs = [] := List.eq_nil_of_length_eq_zero (by omega)
    exact ⟨[], by simp [bytes_trimRightByte.l0], Iff.rfl, Nat.le_refl _⟩
  | succ n ih =>
    intro xs h hn
    by_cases hx : xs.length = 0
    · obtain rfl : xs = [] := List.eq_nil_of_length_eq_zero hx
      exact ⟨[], by simp [bytes_trimRightByte.l0], Iff.rfl, Nat.le_refl _⟩
    · simp only [bytes_trimRightByte.l0]
      have hw : wrap64 ((xs.length : Int) - 1) = ((xs.length - 1 : Nat) : Int) := by rw [Gy.wrap64_id (by omega) (by omega)]; omega
      rw [hw, if_pos (by omega), if_pos (by omega), if_pos (by omega), rd_at xs (xs.length - 1) (by omega)]
      by_cases h0 : xs[xs.length - 1] = 0
      · obtain ⟨r, h1, h2, h3⟩ := ih (xs.take (xs.length - 1)) (by rw [List.length_take]; omega) (by omega)
        rw [if_pos h0, if_pos (by omega), Int.toNat_natCast]
        refine ⟨r, h1, ?_, by rw [List.length_take] at h3; omega⟩
        rw [← h2]
        constructor
        · intro h x hx; exact h x (List.mem_of_mem_take hx)
        · intro h x hx
          obtain ⟨i, hi, rfl⟩ := List.mem_iff_getElem.1 hx
          by_cases e : i = xs.length - 1
          · subst e; exact h0
          · refine h _ (List.mem_iff_getElem.2 ⟨i, by rw [List.length_take]; omega, ?_⟩)
            rw [List.getElem_take]
      · rw [if_neg h0]
        exact ⟨_, rfl, Iff.rfl, Nat.le_refl _⟩
theorem V_of_C {A : Option Addr} {c : Nat} {xs : List Int} {w : World} {base : Nat} (h : Kd.C (Kd.int .u8) w A xs.length xs) (hc : xs.length ≤ c) : Kd.V (Kd.int .u8) 5 w base (fun _ => True) (.slice A xs.length c) xs :=
  Kd.V_mk hc (Kd.F_mono (Kd.C_F (Kd.heap_int .u8) h) (fun _ _ => trivial))
set_option maxHeartbeats 2000000 in
set_option maxRecDepth 100000 in
theorem trim_calls (A : Option Addr) (c : Nat) (xs : List Int) (w : World) (hC : Kd.C (Kd.int .u8) w A xs.length xs) (hc : xs.length ≤ c) (hl : xs.length ≤ 9223372036854775807) :
    Calls Tryd.prog 24 #[.slice A xs.length c, .string ⟨#[0]⟩] w fun e w' => ∃ A' n' c', e = .returned (.slice A' n' c') ∧ (Nought xs ↔ n' = 0) ∧ Below w.heap.size w w' := by
  by_cases h0 : xs.length = 0
  · have t1 : ((xs.length : Int) == 0) = true := by simp; exact List.eq_nil_of_length_eq_zero h0
    have hx : Nought xs := by
      obtain rfl : xs = [] := List.eq_nil_of_length_eq_zero h0
      intro x hx; cases hx
    have HX := Lib.hid hx
    clear hC hx
    go_enter Tryd.func24, Tryd.ntmps24
    go_wp2
    go_ret
    exact ⟨_, _, _, rfl, ⟨fun _ => rfl, fun _ => HX.out⟩, Below.refl _ _⟩
  · obtain ⟨r, hr, hr2, hr3⟩ := right_l0 xs.length xs (Nat.le_refl _) hl
    obtain ⟨s, hs, hs2⟩ := left_l0 r.length r (Nat.le_refl _)
    have hR : ∀ W : World, Below w.heap.size w W → Calls Tryd.prog 31 #[.slice A xs.length c, .int .u8 0] W fun e w' => ∃ A' c', e = .returned (.slice A' r.length c') ∧ (Kd.V (Kd.int .u8) 5 w' W.heap.size (fun _ => True) (.slice A' r.length c') r ∧ Below w.heap.size w w') := fun W hW =>
      (bytes_trimRightByte.calls (xs.length + 1) (fun _ => True) A c xs 0 r W (V_of_C (Kd.C_below hC hW) hc) hr).mono fun e w' ⟨v, h1, h2, h3⟩ => by
        obtain ⟨A', c', rfl⟩ := Kd.V_slice h2
        exact ⟨A', c', h1, Kd.V_mono h2 (fun _ _ => trivial), hW.trans (h3.mono hW.size)⟩
    have hL : ∀ (W : World) (A1 : Option Addr) (c1 b1 : Nat), Below w.heap.size w W → Kd.V (Kd.int .u8) 5 W b1 (fun _ => True) (.slice A1 r.length c1) r → Calls Tryd.prog 30 #[.slice A1 r.length c1, .int .u8 0] W fun e w' => ∃ A' c', e = .returned (.slice A' s.length c') ∧ Below w.heap.size w w' := fun W A1 c1 b1 hW hV =>
      (bytes_trimLeftByte.calls (r.length + 1) (fun _ => True) A1 c1 r 0 s W hV hs).mono fun e w' ⟨v, h1, h2, h3⟩ => by
        obtain ⟨A', c', rfl⟩ := Kd.V_slice h2
        exact ⟨A', c', h1, hW.trans (h3.mono hW.size)⟩
    have HR := Lib.hid hR
    have HL := Lib.hid hL
    have HN := Lib.hid (show Nought xs ↔ s.length = 0 by rw [hr2, hs2]; exact ⟨fun h => by rw [h]; rfl, fun h => List.eq_nil_of_length_eq_zero h⟩)
    have t1 : ((xs.length : Int) == 0) = false := by simp; intro h; exact h0 (by rw [h]; rfl)
    clear hC hR hL hr hr2 hr3 hs hs2 h0
    go_enter Tryd.func24, Tryd.ntmps24
    go_wp2
    go_region_with (first
      | (go_at_call 31; refine (HR.out _ (Gy.drew_below _)).mono ?_; rintro e w1 ⟨A1, c1, rfl, e1⟩; have E1 := Lib.hid e1; clear e1)
      | (go_at_call 30; refine (HL.out _ _ _ _ E1.out.2 E1.out.1).mono ?_; rintro e w2 ⟨A2, c2, rfl, e2⟩; have E2 := Lib.hid e2; clear e2))
    all_goals
      go_wp2
      go_ret
      exact ⟨_, _, _, rfl, HN.out, E2.out⟩
/-! ### vector.Zero, vector.Dot -/
instance (xs : List Int) : Decidable (Nought xs) := by unfold Nought; infer_instance
def vector_Zero.f (l0 : List Int) : Option Bool := if l0.length ≤ 100000 then some (decide (Nought l0)) else none
theorem vector_Zero.calls (A0 : Option Addr) (c0 : Nat) (l0 : List Int) (r : Bool) (w : World) (hr0 : Kd.C (Kd.int .u8) w A0 l0.length l0) (hc0 : l0.length ≤ c0) (h : vector_Zero.f l0 = some r) :
    Calls Tryd.prog 12 #[.slice A0 l0.length c0] w fun e w' => e = .returned (.bool r) ∧ Below w.heap.size w w' := by
  unfold vector_Zero.f at h
  split at h
  · rename_i hl
    obtain rfl := Option.some.inj h
    have H := Lib.hid (trim_calls A0 c0 l0 w hr0 hc0 (by omega))
    clear hr0 hc0 h hl
    by_cases hN : Nought l0
    · have e : decide (Nought l0) = true := decide_eq_true hN
      have HN := Lib.hid hN
      rw [e]
      clear hN e
      go_enter Tryd.func12, Tryd.ntmps12
      go_wp2_with (go_at_call 24; (with_reducible refine H.out.mono ?_); rintro e w1 ⟨A', n', c', rfl, h1, h2⟩; obtain rfl : n' = 0 := h1.1 HN.out; have H2 := Lib.hid h2; clear h1 h2)
      go_ret
      exact ⟨rfl, H2.out⟩
    · have e : decide (Nought l0) = false := decide_eq_false hN
      have HN := Lib.hid hN
      rw [e]
      clear hN e
      go_enter Tryd.func12, Tryd.ntmps12
      go_wp2_with (go_at_call 24; (with_reducible refine H.out.mono ?_); rintro e w1 ⟨A', n', c', rfl, h1, h2⟩; have t1 : ((n' : Int) == 0) = false := (by simp; intro h; exact HN.out (h1.2 (by omega))); have H2 := Lib.hid h2; clear h1 h2)
      go_ret
      exact ⟨rfl, H2.out⟩
  · cases h
def vector_Dot.f (l0 l1 : List Int) : Option (Int × Int) :=
  if l0.length = l1.length then (if l0.length ≤ 100000 ∧ okB l0 = true ∧ okB l1 = true then some (((dotN l0 l1 l0.length : Nat) : Int), 0) else none) else some (0, 1)
theorem dot_apart (A0 : Option Addr) (n0 c0 : Nat) (A1 : Option Addr) (n1 c1 : Nat) (w : World) (h : n0 ≠ n1) :
    Calls Tryd.prog 11 #[.slice A0 n0 c0, .slice A1 n1 c1] w fun e w' => e = .returned (.tuple #[.int .u8 0, .int .i64 1]) ∧ w = w' := by
  have t1 : ((n0 : Int) == (n1 : Int)) = false := by simp; omega
  have t2 : (n0 == n1) = false := by simp; exact h
  have t3 : ((n0 : Int) != (n1 : Int)) = true := by simp; omega
  clear h
  go_enter Tryd.func11, Tryd.ntmps11
  go_wp2
  go_ret2
  exact ⟨rfl, rfl⟩
theorem vector_Dot.calls (A0 : Option Addr) (c0 : Nat) (l0 : List Int) (A1 : Option Addr) (c1 : Nat) (l1 : List Int) (r1 r2 : Int) (w : World) (hr0 : Kd.C (Kd.int .u8) w A0 l0.length l0) (_hc0 : l0.length ≤ c0) (hr1 : Kd.C (Kd.int .u8) w A1 l1.length l1) (_hc1 : l1.length ≤ c1) (h : vector_Dot.f l0 l1 = some (r1, r2)) :
    Calls Tryd.prog 11 #[.slice A0 l0.length c0, .slice A1 l1.length c1] w fun e w' => e = .returned (.tuple #[.int .u8 r1, .int .i64 r2]) ∧ Below w.heap.size w w' := by
  unfold vector_Dot.f at h
  split at h
  · rename_i hl
    split at h
    · rename_i hc
      obtain ⟨h1, h2, h3⟩ := hc
      obtain ⟨rfl, rfl⟩ := Prod.mk.inj (Option.some.inj h)
      have k1 := Gy.reads_of_kd hr1
      rw [← hl] at k1 ⊢
      exact dot_calls A0 c0 A1 c1 l0.length l0 l1 w (Gy.reads_of_kd hr0) k1 (okB_by h2) (okB_by h3)
    · cases h
  · rename_i hl
    obtain ⟨rfl, rfl⟩ := Prod.mk.inj (Option.some.inj h)
    exact (dot_apart A0 _ c0 A1 _ c1 w hl).mono fun e w' ⟨h1, h2⟩ => ⟨h1, by subst h2; exact Below.refl _ _⟩
end Go.Proofs.YtcmigmldecacpaaDoor.Giv
