/- The walks over package replay: sums of slots, a board is made. -/
import Derived.Test.YtcmigmldecacpaaBoardCalls
namespace Go.Proofs.Ytcmigmldecacpaa.Vec
open Go Go.RowKit Go.Proofs.YtcmigmldecacpaaW.PrintWords Go.Proofs.YtcmigmldecacpaaW.PrintMore

set_option maxHeartbeats 8000000 in
set_option maxRecDepth 100000 in
theorem add_in (base g : Nat) (hv : Value) (ks : List Value) (rows : List (List Int)) (z y c n : Nat) (w : World) (h : BoardIs base w g hv ks rows) (hz : z < rows.length) (hy : y < rows.length) (hzy : z ≠ y) (hl : rows[z].length = n) (hl2 : rows[y].length = n) (hn : n ≤ 100000) (hby : By rows[z]) (hby2 : By rows[y]) (hc : c < 256) :
    Calls Try.prog 18 #[.pointer (some ⟨g, 0, none⟩), .int .i64 (z : Int), .int .i64 (y : Int), .int .u8 c] w fun e w' => e = .returned (.int .i64 0) ∧ Brd base w' g (rows.set z (plusL rows[z] rows[y] c)) ∧ Below base w w' := by
  have H := Lib.hid (has_in base g hv ks rows z w h hz)
  have H2 := Lib.hid (has_in base g hv ks rows y w h hy)
  have k0 := h.c0
  obtain ⟨b, cap, A, c', rfl, hbg, hbb, hbl, k1, f1, hR⟩ := h.slot z hz
  obtain ⟨b2, cap2, A3, c3, e3, _, _, _, k2, _, hR2⟩ := h.slot y hy
  injection e3 with e3 _ _
  injection e3 with e3
  injection e3 with e3
  subst e3
  have HB := Lib.hid h
  rw [hl] at k1 hR
  rw [hl2] at k2 hR2
  have HR := Lib.hid (And.intro hR (And.intro hR2 (And.intro hn (And.intro hby hby2))))
  have HLL := Lib.hid (And.intro hl hl2)
  have HC := Lib.hid hc
  have t2 : (z : Int) < (rows.length : Int) := by omega
  have t0 : (0 : Int) ≤ (z : Int) := by omega
  have t3 : (y : Int) < (rows.length : Int) := by omega
  have t4 : ((z : Int) == (y : Int)) = false := by simp; omega
  have t5 : (z == y) = false := by simp; exact hzy
  have HZ := Lib.hid (show 0 < rows.length by omega)
  have k0d : w.drew.cell? ⟨g, 0, none⟩ = some (.slice (some ⟨b, 0, none⟩) rows.length cap) := k0
  have k1d : w.drew.cell? ⟨b, z, none⟩ = some (.slice A n c') := k1
  have k2d : w.drew.cell? ⟨b, y, none⟩ = some (.slice A3 n c3) := k2
  clear h hR hl hby hc hbb hbl hR2 hl2 hby2 hn
  generalize hrow : rows[z] = row at *
  generalize hrow2 : rows[y] = row2 at *
  go_enter Try.func18, Try.ntmps18
  go_wp2_with (first
    | (go_at_call 52; (with_reducible refine H.out.mono ?_); rintro e w1 ⟨rfl, rfl⟩)
    | (go_at_call 52; (with_reducible refine H2.out.mono ?_); rintro e w1 ⟨rfl, rfl⟩))
  go_region_with (first
    | (go_at_call 54; (with_reducible refine (axpy_calls A c' A3 c3 n c row row2 _ (Gy.reads_below HR.out.1 (Gy.drew_below _)) (Gy.reads_below HR.out.2.1 (Gy.drew_below _)) HR.out.2.2.2.1 HR.out.2.2.2.2 HC.out HR.out.2.2.1).mono ?_); rintro e w2 ⟨A2, c2, rfl, e1⟩; have y0 := below_cell (And.right e1) k0d; have y1 := below_cell (And.right e1) k1d; have y2 := (BoardIs.free (HB.out.below ((Gy.drew_below _).trans (And.right e1 |>.mono (Gy.drew_below _).size))) HZ.out z).2; have E1 := Lib.hid e1; clear e1))
  all_goals
    go_wp2
    go_ret
    exact ⟨rfl, board_put HB.out z HZ.out E1.out (by rw [plusL_length (by rw [HLL.out.1, HLL.out.2]), HLL.out.1]) HR.out.2.2.1⟩
end Go.Proofs.Ytcmigmldecacpaa.Vec
