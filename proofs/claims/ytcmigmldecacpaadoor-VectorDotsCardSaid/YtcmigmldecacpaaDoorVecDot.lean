/- The walks over package vector: the sum of the products. -/
import Derived.Test.YtcmigmldecacpaaDoorVecDoor
namespace Go.Proofs.YtcmigmldecacpaaDoor.Vec
open Go Go.RowKit Go.Proofs.YtcmigmldecacpaaDoorW.PrintWords Go.Proofs.YtcmigmldecacpaaDoorW.PrintMore

theorem add_calls (a b : Nat) (w : World) (ha : a < 256) (hb : b < 256) : Calls Tryd.prog 22 #[.int .u8 a, .int .u8 b] w fun e w' => e = .returned (.int .u8 (a ^^^ b : Nat)) ∧ w = w' := by
  have e1 := Go.u8_xor_nat a b ha hb
  clear ha hb
  go_enter Tryd.func22, Tryd.ntmps22
  go_wp2
  go_ret
  exact ⟨rfl, rfl⟩
theorem below_cell2 {w w' : World} {a : Addr} {u : Value} (hb : Below w.heap.size w w') (h : w.cell? a = some u) : w'.cell? a = some u := by
  have hlt : a.block < w.heap.size := by
    rcases Nat.lt_or_ge a.block w.heap.size with h' | h'
    · exact h'
    · simp [World.cell?, Array.getElem?_eq_none h'] at h
  rw [hb.cell hlt]; exact h
/-- the sum of the products of so many places -/
def dotN (a b : List Int) : Nat → Nat
  | 0 => 0
  | j + 1 => dotN a b j ^^^ Gy.gmul (a.getD j 0).toNat (b.getD j 0).toNat
theorem getD_at (l : List Int) (j : Nat) (hj : j < l.length) : l.getD j 0 = l[j] := by simp [List.getD_eq_getElem?_getD, hj]
theorem dotN_lt {a b : List Int} (ha : By a) (hb : By b) : ∀ j, j ≤ a.length → j ≤ b.length → dotN a b j < 256 := by
  intro j
  induction j with
  | zero => intro _ _; exact (by omega : 0 < 256)
  | succ j ih =>
    intro h1 h2
    obtain ⟨m, hm, lm⟩ := ha.at j (by omega)
    obtain ⟨p, hp, lp⟩ := hb.at j (by omega)
    show dotN a b j ^^^ Gy.gmul (a.getD j 0).toNat (b.getD j 0).toNat < 256
    rw [getD_at a j (by omega), getD_at b j (by omega), hm, hp, Int.toNat_natCast, Int.toNat_natCast]
    exact Gy.xor_lt8 (ih (by omega) (by omega)) (Gy.gmul_lt lm lp)
set_option maxHeartbeats 2000000 in
set_option maxRecDepth 100000 in
theorem dot_calls (A0 : Option Addr) (c0 : Nat) (A1 : Option Addr) (c1 n : Nat) (a b : List Int) (w : World) (h0 : ReadsInt w .u8 A0 n a) (h1 : ReadsInt w .u8 A1 n b) (ha : By a) (hb : By b) :
    Calls Tryd.prog 11 #[.slice A0 n c0, .slice A1 n c1] w fun e w' => e = .returned (.tuple #[.int .u8 (dotN a b n : Nat), .int .i64 0]) ∧ Below w.heap.size w w' := by
  have H0 := Lib.hid h0
  have H1 := Lib.hid h1
  have HB := Lib.hid (And.intro ha hb)
  clear h0 h1 ha hb
  go_enter Tryd.func11, Tryd.ntmps11
  go_wp2
  go_loopw [6, 16] (fun v6 v16 wr => ∃ j : Nat, j ≤ n ∧ v6 = .int .u8 ((dotN a b j : Nat) : Int) ∧ v16 = .int .i64 (j : Int) ∧ Gy.Hd (Below w.heap.size w wr)) (fun _ v16 _ => n - (intOf v16).toNat)
  case atStart => exact ⟨0, Nat.zero_le _, rfl, rfl, ⟨Below.refl _ _⟩⟩
  case round =>
    obtain ⟨j, hj, rfl, rfl, hx⟩ := hrel
    have l0 := H0.out.1
    have l1 := H1.out.1
    by_cases hjn : j < n
    · have t3 := j_lt hjn
      obtain ⟨m, hm, lm⟩ := HB.out.1.at j (by omega)
      obtain ⟨p, hp, lp⟩ := HB.out.2.at j (by omega)
      obtain ⟨ad, rfl, hc0⟩ := (Gy.reads_below H0.out hx.out).2.2 (by omega)
      obtain ⟨ad1, rfl, hc1⟩ := (Gy.reads_below H1.out hx.out).2.2 (by omega)
      have k0 := hc0 j hjn
      have k1 := hc1 j hjn
      have hsum : dotN a b (j + 1) = dotN a b j ^^^ Gy.gmul m p := by
        show dotN a b j ^^^ Gy.gmul (a.getD j 0).toNat (b.getD j 0).toNat = _
        rw [getD_at a j (by omega), getD_at b j (by omega), hm, hp, Int.toNat_natCast, Int.toNat_natCast]
      rw [getD_at a j (by omega), hm] at k0
      rw [getD_at b j (by omega), hp] at k1
      have HD := Lib.hid (dotN_lt HB.out.1 HB.out.2 j (by omega) (by omega))
      have HM := Lib.hid (And.intro lm lp)
      have HX := Lib.hid hx.out
      have hwj := up_wrap hjn (by have := H0.out.2.1; omega)
      have HWJ := Lib.hid hwj
      have hend := end_row hjn
      have HJ := Lib.hid hjn
      have HS := Lib.hid hsum
      clear hc0 hc1 hm hp hsum hx lm lp l0 l1
      go_wp2_with (first
        | (go_at_call 23; (with_reducible refine (mul_calls m p _ HM.out.1 HM.out.2).mono ?_); rintro e w1 ⟨rfl, e1⟩; have E1 := Lib.hid e1; clear e1)
        | (go_at_call 22; (with_reducible refine (add_calls _ _ _ HD.out (Gy.gmul_lt HM.out.1 HM.out.2)).mono ?_); rintro e w2 ⟨rfl, rfl⟩))
      rw [HWJ.out]
      exact ⟨⟨j + 1, HJ.out, by rw [HS.out], by norm_cast, ⟨HX.out.trans (E1.out.mono HX.out.size)⟩⟩, hend⟩
    · obtain rfl : j = n := Nat.le_antisymm hj (Nat.le_of_not_lt hjn)
      have t3 : decide ((j : Int) < (j : Int)) = false := by simp
      go_wp2
      go_ret2
      exact ⟨rfl, hx.out⟩
end Go.Proofs.YtcmigmldecacpaaDoor.Vec
