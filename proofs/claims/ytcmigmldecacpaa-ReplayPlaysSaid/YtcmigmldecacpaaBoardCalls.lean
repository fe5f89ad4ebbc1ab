/- The walks over package replay: slots. -/
import Derived.Test.YtcmigmldecacpaaBoard
import Derived.Deep.RegionHeld3
import Derived.Deep.RegionLaw
namespace Go.Proofs.Ytcmigmldecacpaa.Vec
open Go Go.RowKit Go.Proofs.YtcmigmldecacpaaW.PrintWords Go.Proofs.YtcmigmldecacpaaW.PrintMore

theorem has_nil (z : Int) (w : World) : Calls Try.prog 52 #[.pointer none, .int .i64 z] w fun e w' => e = .returned (.bool false) ∧ w = w' := by
  go_enter Try.func52, Try.ntmps52
  go_wp2
  go_ret
  exact ⟨rfl, rfl⟩
theorem BoardIs.slice {base : Nat} {w : World} {g : Nat} {hv : Value} {ks : List Value} {rows : List (List Int)} (h : BoardIs base w g hv ks rows) : ∃ A c, hv = .slice A rows.length c := by
  obtain ⟨A, c, e⟩ := own_slice h.own
  exact ⟨A, c, by rw [e, h.len]⟩
theorem has_in (base g : Nat) (hv : Value) (ks : List Value) (rows : List (List Int)) (z : Nat) (w : World) (h : BoardIs base w g hv ks rows) (hz : z < rows.length) :
    Calls Try.prog 52 #[.pointer (some ⟨g, 0, none⟩), .int .i64 (z : Int)] w fun e w' => e = .returned (.bool true) ∧ w = w' := by
  obtain ⟨A, c, rfl⟩ := h.slice
  have k0 := h.c0
  have t1 : decide ((0 : Int) ≤ (z : Int)) = true := by simp
  have t2 : decide ((z : Int) < (rows.length : Int)) = true := by simp; omega
  have t2n : decide (z < rows.length) = true := by simp; omega
  clear h
  go_enter Try.func52, Try.ntmps52
  go_wp2
  go_ret
  exact ⟨rfl, rfl⟩
theorem has_out (base g : Nat) (hv : Value) (ks : List Value) (rows : List (List Int)) (z : Int) (w : World) (h : BoardIs base w g hv ks rows) (hz : z < 0 ∨ (rows.length : Int) ≤ z) :
    Calls Try.prog 52 #[.pointer (some ⟨g, 0, none⟩), .int .i64 z] w fun e w' => e = .returned (.bool false) ∧ w = w' := by
  obtain ⟨A, c, rfl⟩ := h.slice
  have k0 := h.c0
  clear h
  by_cases h1 : 0 ≤ z
  · have t1 : decide ((0 : Int) ≤ z) = true := by simp [h1]
    have t2 : decide (z < (rows.length : Int)) = false := by simp; omega
    clear hz h1
    go_enter Try.func52, Try.ntmps52
    go_wp2
    go_ret
    exact ⟨rfl, rfl⟩
  · have t1 : decide ((0 : Int) ≤ z) = false := by simp [h1]
    clear hz h1
    go_enter Try.func52, Try.ntmps52
    go_wp2
    go_ret
    exact ⟨rfl, rfl⟩
/-- a slot's header, where it lies -/
theorem BoardIs.slot {base : Nat} {w : World} {g : Nat} {hv : Value} {ks : List Value} {rows : List (List Int)} (h : BoardIs base w g hv ks rows) (z : Nat) (hz : z < rows.length) :
    ∃ b cap A c, hv = .slice (some ⟨b, 0, none⟩) rows.length cap ∧ b ≠ g ∧ base ≤ b ∧ b < w.heap.size ∧ w.cell? ⟨b, z, none⟩ = some (.slice A rows[z].length c) ∧ w.frozen? ⟨b, z, none⟩ = false ∧ ReadsInt w .u8 A rows[z].length rows[z] := by
  obtain ⟨b, cap, e⟩ := Gy.own_some h.own (by have := h.len; omega)
  have ho := h.own
  rw [e] at ho
  have hzk : z < ks.length := by have := h.len; omega
  obtain ⟨A, c, e2, hR, _⟩ := h.el z _ _ (List.getElem?_eq_getElem hzk) (List.getElem?_eq_getElem hz)
  refine ⟨b, cap, A, c, by rw [e, h.len], fun eb => h.ne (by rw [e, eb]; rfl), own_base ho b rfl, own_lt ho b rfl, ?_, ho.frozenAt z, hR⟩
  rw [ho.cellAt z (by omega), List.getElem?_eq_getElem hzk, e2]
theorem slot_nil (z : Int) (w : World) : Calls Try.prog 19 #[.pointer none, .int .i64 z] w fun e w' => e = .returned (.slice none 0 0) ∧ w = w' := by
  go_enter Try.func19, Try.ntmps19
  go_wp2_with (go_at_call 52; (with_reducible refine (has_nil _ _).mono ?_); rintro e w1 ⟨rfl, rfl⟩)
  go_ret
  exact ⟨rfl, rfl⟩
theorem scale_nil (z c : Int) (w : World) : Calls Try.prog 17 #[.pointer none, .int .i64 z, .int .u8 c] w fun e w' => e = .returned (.int .i64 1) ∧ w = w' := by
  go_enter Try.func17, Try.ntmps17
  go_wp2_with (go_at_call 52; (with_reducible refine (has_nil _ _).mono ?_); rintro e w1 ⟨rfl, rfl⟩)
  go_ret
  exact ⟨rfl, rfl⟩
theorem add_nil (z y c : Int) (w : World) : Calls Try.prog 18 #[.pointer none, .int .i64 z, .int .i64 y, .int .u8 c] w fun e w' => e = .returned (.int .i64 1) ∧ w = w' := by
  go_enter Try.func18, Try.ntmps18
  go_wp2_with (go_at_call 52; (with_reducible refine (has_nil _ _).mono ?_); rintro e w1 ⟨rfl, rfl⟩)
  go_ret
  exact ⟨rfl, rfl⟩
theorem slot_out (base g : Nat) (hv : Value) (ks : List Value) (rows : List (List Int)) (z : Int) (w : World) (h : BoardIs base w g hv ks rows) (hz : z < 0 ∨ (rows.length : Int) ≤ z) :
    Calls Try.prog 19 #[.pointer (some ⟨g, 0, none⟩), .int .i64 z] w fun e w' => e = .returned (.slice none 0 0) ∧ w = w' := by
  have H := Lib.hid (has_out base g hv ks rows z w h hz)
  clear h hz
  go_enter Try.func19, Try.ntmps19
  go_wp2_with (go_at_call 52; (with_reducible refine H.out.mono ?_); rintro e w1 ⟨rfl, rfl⟩)
  go_ret
  exact ⟨rfl, rfl⟩
theorem slot_in (base g : Nat) (hv : Value) (ks : List Value) (rows : List (List Int)) (z : Nat) (w : World) (h : BoardIs base w g hv ks rows) (hz : z < rows.length) (hl : rows[z].length ≤ 100000) :
    Calls Try.prog 19 #[.pointer (some ⟨g, 0, none⟩), .int .i64 (z : Int)] w fun e w' => ∃ A c, e = .returned (.slice A rows[z].length c) ∧ MadeRow w rows[z].length rows[z] A c w' := by
  have H := Lib.hid (has_in base g hv ks rows z w h hz)
  have k0 := h.c0
  obtain ⟨b, cap, A, c, rfl, hbg, _, _, k1, f1, hR⟩ := h.slot z hz
  have HR := Lib.hid (And.intro hR hl)
  have t2 : (z : Int) < (rows.length : Int) := by omega
  clear h hR hl
  generalize rows[z] = row at *
  go_enter Try.func19, Try.ntmps19
  go_wp2_with (first
    | (go_at_call 52; (with_reducible refine H.out.mono ?_); rintro e w1 ⟨rfl, rfl⟩)
    | (go_at_call 51; (with_reducible refine (clone_calls A row.length c row _ HR.out.1 (by have := HR.out.2; omega)).mono ?_); rintro e w3 ⟨v3, rfl, e1, e2⟩; obtain ⟨A3, c3, rfl⟩ := own_slice e1; have E3 := Lib.hid (And.intro e1 e2); clear e1 e2))
  go_ret
  exact ⟨A3, c3, rfl, E3.out⟩
theorem BoardIs.free {base : Nat} {w : World} {g b n cap : Nat} {ks : List Value} {rows : List (List Int)} (h : BoardIs base w g (.slice (some ⟨b, 0, none⟩) n cap) ks rows) (hk : 0 < rows.length) (z : Nat) : n = ks.length ∧ w.frozen? ⟨b, z, none⟩ = false := by
  obtain ⟨b', cap', e⟩ := Gy.own_some h.own (by have := h.len; omega)
  have ho := h.own
  injection e with e1 e2 e3
  injection e1 with e1
  injection e1 with e1
  subst e1 e2
  exact ⟨rfl, ho.frozenAt z⟩
/-- a board of these rows, at some place -/
def Brd (base : Nat) (w : World) (g : Nat) (rows : List (List Int)) : Prop := ∃ hv ks, BoardIs base w g hv ks rows
theorem scale_out (base g : Nat) (hv : Value) (ks : List Value) (rows : List (List Int)) (z c : Int) (w : World) (h : BoardIs base w g hv ks rows) (hz : z < 0 ∨ (rows.length : Int) ≤ z) :
    Calls Try.prog 17 #[.pointer (some ⟨g, 0, none⟩), .int .i64 z, .int .u8 c] w fun e w' => e = .returned (.int .i64 1) ∧ w = w' := by
  have H := Lib.hid (has_out base g hv ks rows z w h hz)
  clear h hz
  go_enter Try.func17, Try.ntmps17
  go_wp2_with (go_at_call 52; (with_reducible refine H.out.mono ?_); rintro e w1 ⟨rfl, rfl⟩)
  go_ret
  exact ⟨rfl, rfl⟩
theorem below_cell {w w' : World} {a : Addr} {u : Value} (hb : Below w.heap.size w w') (h : w.cell? a = some u) : w'.cell? a = some u := by
  have hlt : a.block < w.heap.size := by
    rcases Nat.lt_or_ge a.block w.heap.size with h' | h'
    · exact h'
    · simp [World.cell?, Array.getElem?_eq_none h'] at h
  rw [hb.cell hlt]; exact h
theorem board_put {base : Nat} {w w2 : World} {g b cap : Nat} {ks : List Value} {rows : List (List Int)} (hB : BoardIs base w g (.slice (some ⟨b, 0, none⟩) rows.length cap) ks rows) (z : Nat) (_hz : 0 < rows.length) {A2 : Option Addr} {n c2 : Nat} {row' : List Int} (hm : MadeRow w.drew n row' A2 c2 w2) (hn : row'.length = n) (hl : n ≤ 100000) :
    Brd base (w2.setCell ⟨b, z, none⟩ (.slice A2 n c2)) g (rows.set z row') ∧ Below base w (w2.setCell ⟨b, z, none⟩ (.slice A2 n c2)) := by
  subst hn
  have hbel : Below w.heap.size w w2 := (Gy.drew_below w).trans (hm.2.mono (Gy.drew_below w).size)
  have h2 := hB.below hbel
  have hg : g < w.drew.heap.size := Gy.cell_lt (o := 0) hB.c0
  have hbl : b < w.drew.heap.size := own_lt hB.own b rfl
  have hbb : base ≤ b := own_base hB.own b rfl
  have hs := made_slot (g := g) (ob := some b) hm rfl (by omega) hg (fun k e => by injection e with e; omega)
  have h3 := h2
  rw [← hB.len] at h3
  exact ⟨⟨_, _, h3.set z _ _ hs⟩, (hbel.mono hB.le).setCell (show base ≤ (⟨b, z, none⟩ : Addr).block from hbb) _⟩
theorem scaleL_length (a : List Int) (c : Nat) : (scaleL a c).length = a.length := by unfold scaleL; rw [List.length_zipWith]; omega
set_option maxHeartbeats 2000000 in
set_option maxRecDepth 100000 in
theorem scale_in (base g : Nat) (hv : Value) (ks : List Value) (rows : List (List Int)) (z c : Nat) (w : World) (h : BoardIs base w g hv ks rows) (hz : z < rows.length) (hl : rows[z].length ≤ 100000) (hby : By rows[z]) (hc : c < 256) :
    Calls Try.prog 17 #[.pointer (some ⟨g, 0, none⟩), .int .i64 (z : Int), .int .u8 c] w fun e w' => e = .returned (.int .i64 0) ∧ Brd base w' g (rows.set z (scaleL rows[z] c)) ∧ Below base w w' := by
  have H := Lib.hid (has_in base g hv ks rows z w h hz)
  have k0 := h.c0
  obtain ⟨b, cap, A, c', rfl, hbg, hbb, hbl, k1, f1, hR⟩ := h.slot z hz
  have HB := Lib.hid h
  have HR := Lib.hid (And.intro hR (And.intro hl (And.intro hby (And.intro hbg (And.intro hbb hbl)))))
  have HC := Lib.hid hc
  have t2 : (z : Int) < (rows.length : Int) := by omega
  have t0 : (0 : Int) ≤ (z : Int) := by omega
  have HZ := Lib.hid (show 0 < rows.length by omega)
  have k0d : w.drew.cell? ⟨g, 0, none⟩ = some (.slice (some ⟨b, 0, none⟩) rows.length cap) := k0
  clear h hR hl hby hc hbb hbl
  generalize hrow : rows[z] = row at *
  have k1d : w.drew.cell? ⟨b, z, none⟩ = some (.slice A row.length c') := k1
  go_enter Try.func17, Try.ntmps17
  go_wp2_with (go_at_call 52; (with_reducible refine H.out.mono ?_); rintro e w1 ⟨rfl, rfl⟩)
  go_region_with (first
    | (go_at_call 53; (with_reducible refine (scale_calls A c' row.length c row _ (Gy.reads_below HR.out.1 (Gy.drew_below _)) HR.out.2.2.1 HC.out HR.out.2.1).mono ?_); rintro e w2 ⟨A2, c2, rfl, e1⟩; have y0 := below_cell (And.right e1) k0d; have y1 := below_cell (And.right e1) k1d; have y2 := (BoardIs.free (HB.out.below ((Gy.drew_below _).trans (And.right e1 |>.mono (Gy.drew_below _).size))) HZ.out z).2; have E1 := Lib.hid e1; clear e1))
  all_goals
    go_wp2
    go_ret
    exact ⟨rfl, board_put HB.out z HZ.out E1.out (scaleL_length row c) HR.out.2.1⟩
theorem add_out (base g : Nat) (hv : Value) (ks : List Value) (rows : List (List Int)) (z y c : Int) (w : World) (h : BoardIs base w g hv ks rows) (hz : ¬ (0 ≤ z ∧ z < (rows.length : Int) ∧ 0 ≤ y ∧ y < (rows.length : Int) ∧ z ≠ y)) :
    Calls Try.prog 18 #[.pointer (some ⟨g, 0, none⟩), .int .i64 z, .int .i64 y, .int .u8 c] w fun e w' => e = .returned (.int .i64 1) ∧ w = w' := by
  by_cases h1 : 0 ≤ z ∧ z < (rows.length : Int)
  · obtain ⟨z', rfl⟩ : ∃ m : Nat, z = (m : Int) := ⟨z.toNat, by omega⟩
    have H1 := Lib.hid (has_in base g hv ks rows z' w h (by omega))
    by_cases h2 : 0 ≤ y ∧ y < (rows.length : Int)
    · obtain ⟨y', rfl⟩ : ∃ m : Nat, y = (m : Int) := ⟨y.toNat, by omega⟩
      have H2 := Lib.hid (has_in base g hv ks rows y' w h (by omega))
      have e : z' = y' := by omega
      subst e
      clear h hz h1 h2
      go_enter Try.func18, Try.ntmps18
      go_wp2_with (go_at_call 52; (with_reducible refine H1.out.mono ?_); rintro e w1 ⟨rfl, rfl⟩)
      go_ret
      exact ⟨rfl, rfl⟩
    · have H2 := Lib.hid (has_out base g hv ks rows y w h (by omega))
      clear h hz h1 h2
      go_enter Try.func18, Try.ntmps18
      go_wp2_with (first
        | (go_at_call 52; (with_reducible refine H1.out.mono ?_); rintro e w1 ⟨rfl, rfl⟩)
        | (go_at_call 52; (with_reducible refine H2.out.mono ?_); rintro e w1 ⟨rfl, rfl⟩))
      go_ret
      exact ⟨rfl, rfl⟩
  · have H1 := Lib.hid (has_out base g hv ks rows z w h (by omega))
    clear h hz h1
    go_enter Try.func18, Try.ntmps18
    go_wp2_with (go_at_call 52; (with_reducible refine H1.out.mono ?_); rintro e w1 ⟨rfl, rfl⟩)
    go_ret
    exact ⟨rfl, rfl⟩
end Go.Proofs.Ytcmigmldecacpaa.Vec
