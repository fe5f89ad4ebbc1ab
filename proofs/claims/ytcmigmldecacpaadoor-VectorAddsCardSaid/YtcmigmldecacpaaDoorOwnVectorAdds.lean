/- VectorAdds: the walk. -/
import Derived.Test.YtcmigmldecacpaaDoorVecDoor
import Derived.Test.YtcmigmldecacpaaDoorOpenB
import Derived.Test.YtcmigmldecacpaaDoorFlow
namespace Go.Proofs.YtcmigmldecacpaaDoor.Vec
open Go Go.RowKit Go.Proofs.YtcmigmldecacpaaDoorW.PrintWords Go.Proofs.YtcmigmldecacpaaDoorW.PrintMore
set_option linter.unusedSimpArgs false

theorem awakeC {W w : World} (hb : Below W.heap.size W w) : Calls Tryd.prog 7 #[] w fun e w' => e = .returned (.bool true) ∧ Below W.heap.size W w' :=
  (awake_calls w).mono fun _ _ h => ⟨h.1, hb.trans (h.2.mono hb.size)⟩
set_option maxHeartbeats 2000000 in
set_option maxRecDepth 100000 in
theorem adds_far (A0 : Option Addr) (c0 n0 : Nat) (A1 : Option Addr) (c1 n1 : Nat) (c : Int) (W : World) (h : 5000 < n0 ∨ 5000 < n1) :
    Calls Tryd.prog 3 #[.slice A0 n0 c0, .slice A1 n1 c1, .int .u8 c] W fun e w' => e = .returned (.bool true) ∧ Below W.heap.size W w' := by
  by_cases h0 : 5000 < n0
  · have t1 : decide ((5000 : Int) < (n0 : Int)) = true := by simp; omega
    have t1n : decide (5000 < n0) = true := by simp; omega
    clear h h0
    go_enter Tryd.func3, Tryd.ntmps3
    go_wp2_with (go_at_call 7; first | (with_reducible refine (awakeC H1.out).mono ?_; rintro e w3 ⟨rfl, e1⟩; have H3 := Lib.hid e1; clear e1) | (with_reducible refine (awakeC (Below.refl _ W)).mono ?_; rintro e w1 ⟨rfl, e1⟩; have H1 := Lib.hid e1; clear e1))
    go_ret
    exact ⟨rfl, H3.out⟩
  · have t1 : decide ((5000 : Int) < (n0 : Int)) = false := by simp; omega
    have t1n : decide (5000 < n0) = false := by simp; omega
    have t2 : decide ((5000 : Int) < (n1 : Int)) = true := by simp; omega
    have t2n : decide (5000 < n1) = true := by simp; omega
    clear h h0
    go_enter Tryd.func3, Tryd.ntmps3
    go_wp2_with (go_at_call 7; first | (with_reducible refine (awakeC H1.out).mono ?_; rintro e w3 ⟨rfl, e1⟩; have H3 := Lib.hid e1; clear e1) | (with_reducible refine (awakeC (Below.refl _ W)).mono ?_; rintro e w1 ⟨rfl, e1⟩; have H1 := Lib.hid e1; clear e1))
    go_ret
    exact ⟨rfl, H3.out⟩
set_option maxHeartbeats 2000000 in
set_option maxRecDepth 100000 in
theorem adds_apart (A0 : Option Addr) (c0 n0 : Nat) (A1 : Option Addr) (c1 n1 : Nat) (c : Int) (W : World) (h0 : n0 ≤ 5000) (h1 : n1 ≤ 5000) (hne : n0 ≠ n1) :
    Calls Tryd.prog 3 #[.slice A0 n0 c0, .slice A1 n1 c1, .int .u8 c] W fun e w' => e = .returned (.bool true) ∧ Below W.heap.size W w' := by
  have t1 : decide ((5000 : Int) < (n0 : Int)) = false := by simp; omega
  have t1n : decide (5000 < n0) = false := by simp; omega
  have t2 : decide ((5000 : Int) < (n1 : Int)) = false := by simp; omega
  have t2n : decide (5000 < n1) = false := by simp; omega
  have t3 : ((n0 : Int) == (n1 : Int)) = false := by simp; omega
  have t4 : (n0 == n1) = false := by simp; exact hne
  have t5 : ((n0 : Int) != (n1 : Int)) = true := by simp; omega
  have HN := Lib.hid hne
  clear h0 h1 hne
  go_enter Tryd.func3, Tryd.ntmps3
  go_wp2_with (first
    | (go_at_call 7; (with_reducible refine (awakeC (Below.refl _ W)).mono ?_; rintro e w1 ⟨rfl, e1⟩; have H1 := Lib.hid e1; clear e1))
    | (go_at_call 8; (with_reducible refine (axpy_apart _ _ _ _ _ _ _ _ HN.out).mono ?_); rintro e w2 ⟨rfl, rfl⟩))
  go_ret
  exact ⟨rfl, H1.out⟩
theorem reads_eq {w : World} {k : IntKind} {A : Option Addr} {n : Nat} {a b : List Int} (h : a = b) (hr : ReadsInt w k A n a) : ReadsInt w k A n b := h ▸ hr
theorem plus_zeros {a : List Int} {n : Nat} (h : a.length = n) (c : Nat) : plusL (List.replicate n 0) a c = scaleL a c := by
  subst h
  unfold plusL scaleL
  apply List.ext_getElem
  · simp
  · intro i h1 h2
    simp only [List.getElem_zipWith, List.getElem_replicate]
    unfold addI mulI
    simp
theorem zeros_by (n : Nat) : By (List.replicate n 0) := by
  intro x hx
  have := List.eq_of_mem_replicate hx
  omega
theorem conv_of {w : World} {A : Option Addr} {n c : Nat} {xs : List Int} (h : ReadsInt w .u8 A n xs) : (convert 22 9 (.slice A n c)).run Tryd.prog w = .ok (.string (strOfNums xs)) w :=
  string_of_reads Tryd.underlying22 Tryd.underlying5 Tryd.underlying9 h
set_option maxHeartbeats 16000000 in
set_option maxRecDepth 100000 in
theorem adds_same (A0 : Option Addr) (c0 : Nat) (A1 : Option Addr) (c1 n c : Nat) (a b : List Int) (W : World) (h0 : ReadsInt W .u8 A0 n a) (h1 : ReadsInt W .u8 A1 n b) (l0 : n ≤ c0) (l1 : n ≤ c1) (ha : By a) (hb : By b) (hc : c < 256) (hn : n ≤ 5000) :
    Calls Tryd.prog 3 #[.slice A0 n c0, .slice A1 n c1, .int .u8 c] W fun e w' => e = .returned (.bool true) ∧ Below W.heap.size W w' := by
  have t1 : decide ((5000 : Int) < (n : Int)) = false := by simp; omega
  have t1n : decide (5000 < n) = false := by simp; omega
  have hla := h0.1
  have hm := print_make (P := Tryd.prog) 22 5 .u8 1 Tryd.underlying22 info_u8 (by decide) n (by omega)
  have HX := Lib.hid (fun (w : World) (hw : Below W.heap.size W w) => (axpy_calls A0 c0 A1 c1 n c a b w (Gy.reads_below h0 hw) (Gy.reads_below h1 hw) ha hb hc (by omega)).mono fun e w' (h : ∃ A' c', e = .returned (.tuple #[.slice A' n c', .int .i64 0]) ∧ MadeRow w n (plusL a b c) A' c' w') => (show ∃ A' c', e = .returned (.tuple #[.slice A' n c', .int .i64 0]) ∧ ReadsInt w' .u8 A' n (plusL a b c) ∧ Below W.heap.size W w' from by
    obtain ⟨A', c', e1, e2⟩ := h
    have hl : (plusL a b c).length = n := (plusL_length (h1.1.trans h0.1.symm) c).trans h0.1
    have e3 := e2.1
    rw [show n = (plusL a b c).length from hl.symm] at e3
    have e4 := Gy.own_reads e3 rfl (by omega)
    rw [hl] at e4
    exact ⟨A', c', e1, e4, hw.trans (e2.2.mono hw.size)⟩))
  have HP := Lib.hid (fun (w : World) (hw : Below W.heap.size W w) => (plus_calls A0 c0 A1 c1 n c a b w (Gy.reads_below h0 hw) (Gy.reads_below h1 hw) l0 l1 ha hb hc (by omega)).mono fun e w' (h : ∃ A' c', e = .returned (.slice A' n c') ∧ ReadsInt w' .u8 A' n (plusL a b c) ∧ Below w.heap.size w w') => (show ∃ A' c', e = .returned (.slice A' n c') ∧ ReadsInt w' .u8 A' n (plusL a b c) ∧ Below w.heap.size w w' ∧ Below W.heap.size W w' from by
    obtain ⟨A', c', e1, e2, e3⟩ := h
    exact ⟨A', c', e1, e2, e3, hw.trans (e3.mono hw.size)⟩))
  have HC := Lib.hid (fun (w : World) (hw : Below W.heap.size W w) => (scale_calls A0 c0 n c a w (Gy.reads_below h0 hw) ha hc (by omega)).mono fun e w' (h : ∃ A' c', e = .returned (.slice A' n c') ∧ MadeRow w n (scaleL a c) A' c' w') => (show ∃ A' c', e = .returned (.slice A' n c') ∧ ReadsInt w' .u8 A' n (scaleL a c) ∧ Below w.heap.size w w' ∧ Below W.heap.size W w' from by
    obtain ⟨A', c', e1, e2⟩ := h
    have hl : (scaleL a c).length = n := by unfold scaleL; rw [List.length_zipWith, h0.1]; omega
    have e3 := e2.1
    rw [show n = (scaleL a c).length from hl.symm] at e3
    have e4 := Gy.own_reads e3 rfl (by omega)
    rw [hl] at e4
    exact ⟨A', c', e1, e4, e2.2, hw.trans (e2.2.mono hw.size)⟩))
  have HZ := Lib.hid (fun (w : World) (g : Nat) (hw : Below W.heap.size W w) (hg : ReadsInt w .u8 (some ⟨g, 0, none⟩) n (List.replicate n 0)) => (plus_calls (some ⟨g, 0, none⟩) n A0 c0 n c (List.replicate n 0) a w hg (Gy.reads_below h0 hw) (Nat.le_refl n) l0 (zeros_by n) ha hc (by omega)).mono fun e w' (h : ∃ A' c', e = .returned (.slice A' n c') ∧ ReadsInt w' .u8 A' n (plusL (List.replicate n 0) a c) ∧ Below w.heap.size w w') => (show ∃ A' c', e = .returned (.slice A' n c') ∧ ReadsInt w' .u8 A' n (scaleL a c) ∧ Below w.heap.size w w' ∧ Below W.heap.size W w' from by
    obtain ⟨A', c', e1, e2, e3⟩ := h
    exact ⟨A', c', e1, reads_eq (plus_zeros hla c) e2, e3, hw.trans (e3.mono hw.size)⟩))
  have HN := Lib.hid (show n ≤ 9223372036854775807 by omega)
  clear h0 h1 l0 l1 ha hb hc hn hla
  generalize plusL a b c = X at *
  generalize scaleL a c = Y at *
  go_enter Tryd.func3, Tryd.ntmps3
  go_wp2_with (first
    | (go_at_call 7; (with_reducible refine (awakeC (Below.refl _ W)).mono ?_; rintro e w1 ⟨rfl, e1⟩; have H1 := Lib.hid e1; clear e1))
    | (go_at_call 8; (with_reducible refine (HX.out _ H1.out).mono ?_); rintro e w2 ⟨A2, c2, rfl, e1, e2⟩; have H2 := Lib.hid (And.intro e1 e2); clear e1 e2))
  have H3 := Lib.hid H2.out.2
  refine Gy.flow (by kernel_rfl) (fun i => List.getD [(fun v _ => v = .int .i64 0), (fun v _ => v = .bool true), (fun v _ => v = .bool true), (fun v _ => v = .slice A2 n c2), (fun v _ => v = .string (strOfNums X)), (fun v _ => v = .slice A0 n c0), (fun v _ => v = .slice A1 n c1), (fun v _ => v = .int .u8 c), (fun v w => ∃ A c, v = .slice A n c ∧ ReadsInt w .u8 A n X), (fun v _ => v = .string (strOfNums X)), (fun v _ => v = .bool true), (fun v _ => v = .bool true), (fun v _ => v = .bool true), (fun v _ => v = .slice A0 n c0), (fun v _ => v = .int .u8 c), (fun v w => ∃ A c, v = .slice A n c ∧ ReadsInt w .u8 A n Y), (fun v _ => v = .string (strOfNums Y)), (fun v _ => v = .slice A0 n c0), (fun v _ => v = .int .i64 n), (fun v w => ∃ g, v = .slice (some ⟨g, 0, none⟩) n n ∧ ReadsInt w .u8 (some ⟨g, 0, none⟩) n (List.replicate n 0)), (fun v _ => v = .slice A0 n c0), (fun v _ => v = .int .u8 c), (fun v w => ∃ A c, v = .slice A n c ∧ ReadsInt w .u8 A n Y), (fun v _ => v = .string (strOfNums Y)), (fun v _ => v = .bool true), (fun v _ => v = .bool true), (fun v _ => v = .bool true)] i (fun _ _ => True)) (fun w => Below w2.heap.size w2 w) (by kernel_rfl) (Gy.drew_below w2) (Gy.mono_list [(fun v _ => v = .int .i64 0), (fun v _ => v = .bool true), (fun v _ => v = .bool true), (fun v _ => v = .slice A2 n c2), (fun v _ => v = .string (strOfNums X)), (fun v _ => v = .slice A0 n c0), (fun v _ => v = .slice A1 n c1), (fun v _ => v = .int .u8 c), (fun v w => ∃ A c, v = .slice A n c ∧ ReadsInt w .u8 A n X), (fun v _ => v = .string (strOfNums X)), (fun v _ => v = .bool true), (fun v _ => v = .bool true), (fun v _ => v = .bool true), (fun v _ => v = .slice A0 n c0), (fun v _ => v = .int .u8 c), (fun v w => ∃ A c, v = .slice A n c ∧ ReadsInt w .u8 A n Y), (fun v _ => v = .string (strOfNums Y)), (fun v _ => v = .slice A0 n c0), (fun v _ => v = .int .i64 n), (fun v w => ∃ g, v = .slice (some ⟨g, 0, none⟩) n n ∧ ReadsInt w .u8 (some ⟨g, 0, none⟩) n (List.replicate n 0)), (fun v _ => v = .slice A0 n c0), (fun v _ => v = .int .u8 c), (fun v w => ∃ A c, v = .slice A n c ∧ ReadsInt w .u8 A n Y), (fun v _ => v = .string (strOfNums Y)), (fun v _ => v = .bool true), (fun v _ => v = .bool true), (fun v _ => v = .bool true)] ?_) (Gy.of_allFrom ⟨?_, ?_, ?_, ?_, ?_, ?_, ?_, ?_, ?_, ?_, ?_, ?_, ?_, ?_, ?_, ?_, ?_, ?_, ?_, ?_, ?_, ?_, ?_, ?_, ?_, ?_, ?_, trivial⟩) ?_
  · exact ⟨fun v w w' h hb => h, fun v w w' h hb => h, fun v w w' h hb => h, fun v w w' h hb => h, fun v w w' h hb => h, fun v w w' h hb => h, fun v w w' h hb => h, fun v w w' h hb => h, fun v w w' ⟨A, c, e, h⟩ hb => ⟨A, c, e, Gy.reads_below h hb⟩, fun v w w' h hb => h, fun v w w' h hb => h, fun v w w' h hb => h, fun v w w' h hb => h, fun v w w' h hb => h, fun v w w' h hb => h, fun v w w' ⟨A, c, e, h⟩ hb => ⟨A, c, e, Gy.reads_below h hb⟩, fun v w w' h hb => h, fun v w w' h hb => h, fun v w w' h hb => h, fun v w w' ⟨g, e, h⟩ hb => ⟨g, e, Gy.reads_below h hb⟩, fun v w w' h hb => h, fun v w w' h hb => h, fun v w w' ⟨A, c, e, h⟩ hb => ⟨A, c, e, Gy.reads_below h hb⟩, fun v w w' h hb => h, fun v w w' h hb => h, fun v w w' h hb => h, fun v w w' h hb => h, trivial⟩
  · intro a w hs hJ hv
    have e8 : a.eval (.tmp 8) = .int .i64 0 := hs.at_other 8 (by kernel_rfl)
    exact Gy.step_move rfl (Gy.wanted_none rfl) e8 hJ
  · intro a w hs hJ hv
    have e41 : a.eval (.tmp 41) = .int .i64 0 := hv 0 (by kernel_rfl)
    have f41 := e41; simp only [Act.eval, Array.getD_eq_getD_getElem?] at f41
    refine Gy.step_same (Gy.wanted_none rfl) (v := .bool true) ?_ rfl hJ
    simp only [execOp, e41]; go_simp
  · intro a w hs hJ hv
    have e42 : a.eval (.tmp 42) = .bool true := hv 1 (by kernel_rfl)
    exact Gy.step_move rfl (Gy.wanted_none rfl) e42 hJ
  · intro a w hs hJ hv
    have e7 : a.eval (.tmp 7) = .slice A2 n c2 := hs.at_other 7 (by kernel_rfl)
    exact Gy.step_move rfl (Gy.wanted_some (g := 2) (b := true) rfl (hv 2 (by kernel_rfl))) e7 hJ
  · intro a w hs hJ hv
    have e44 : a.eval (.tmp 44) = .slice A2 n c2 := hv 3 (by kernel_rfl)
    have f44 := e44; simp only [Act.eval, Array.getD_eq_getD_getElem?] at f44
    refine Gy.step_same (Gy.wanted_some (g := 2) (b := true) rfl (hv 2 (by kernel_rfl))) (v := .string (strOfNums X)) ?_ rfl hJ
    have hf := conv_of (c := c2) (Gy.reads_below H2.out.1 hJ); simp only [execOp, e44]; go_simp
  · intro a w hs hJ hv
    have e0 : a.eval (.tmp 0) = .slice A0 n c0 := hs.at_other 0 (by kernel_rfl)
    exact Gy.step_move rfl (Gy.wanted_some (g := 2) (b := true) rfl (hv 2 (by kernel_rfl))) e0 hJ
  · intro a w hs hJ hv
    have e1 : a.eval (.tmp 1) = .slice A1 n c1 := hs.at_other 1 (by kernel_rfl)
    exact Gy.step_move rfl (Gy.wanted_some (g := 2) (b := true) rfl (hv 2 (by kernel_rfl))) e1 hJ
  · intro a w hs hJ hv
    have e2 : a.eval (.tmp 2) = .int .u8 c := hs.at_other 2 (by kernel_rfl)
    exact Gy.step_move rfl (Gy.wanted_some (g := 2) (b := true) rfl (hv 2 (by kernel_rfl))) e2 hJ
  · intro a w hs hJ hv
    have e46 : a.eval (.tmp 46) = .slice A0 n c0 := hv 5 (by kernel_rfl)
    have e47 : a.eval (.tmp 47) = .slice A1 n c1 := hv 6 (by kernel_rfl)
    have e48 : a.eval (.tmp 48) = .int .u8 c := hv 7 (by kernel_rfl)
    refine Gy.step_call (args := #[.slice A0 n c0, .slice A1 n c1, .int .u8 c]) (Gy.wanted_some (g := 2) (b := true) rfl (hv 2 (by kernel_rfl))) Tryd.func9 (by kernel_rfl) (by kernel_rfl) rfl (by simp only [List.map_toArray, List.map_cons, List.map_nil, e46, e47, e48]) ?_
    exact (HP.out w (H3.out.trans (hJ.mono H3.out.size))).mono fun e w4 ⟨A4, c4, h1, h2, h3, _⟩ => ⟨_, h1, ⟨A4, c4, rfl, h2⟩, hJ.trans (h3.mono hJ.size), h3⟩
  · intro a w hs hJ hv
    have q49 : ∃ A c, a.eval (.tmp 49) = .slice A n c ∧ ReadsInt w .u8 A n X := hv 8 (by kernel_rfl)
    obtain ⟨B49, d49, e49, r49⟩ := q49
    have f49 := e49; simp only [Act.eval, Array.getD_eq_getD_getElem?] at f49
    refine Gy.step_same (Gy.wanted_some (g := 2) (b := true) rfl (hv 2 (by kernel_rfl))) (v := .string (strOfNums X)) ?_ rfl hJ
    have hf := conv_of (c := d49) r49; simp only [execOp, e49]; go_simp
  · intro a w hs hJ hv
    have e45 : a.eval (.tmp 45) = .string (strOfNums X) := hv 4 (by kernel_rfl)
    have e50 : a.eval (.tmp 50) = .string (strOfNums X) := hv 9 (by kernel_rfl)
    have f45 := e45; simp only [Act.eval, Array.getD_eq_getD_getElem?] at f45
    have f50 := e50; simp only [Act.eval, Array.getD_eq_getD_getElem?] at f50
    refine Gy.step_same (Gy.wanted_some (g := 2) (b := true) rfl (hv 2 (by kernel_rfl))) (v := .bool true) ?_ rfl hJ
    simp only [execOp, e45, e50]; go_simp
  · intro a w hs hJ hv
    have e43 : a.eval (.tmp 43) = .bool true := hv 2 (by kernel_rfl)
    have e51 : a.eval (.tmp 51) = .bool true := hv 10 (by kernel_rfl)
    exact Gy.step_pick (b := true) rfl (Gy.wanted_none rfl) e43 e51 hJ
  · intro a w hs hJ hv
    have e52 : a.eval (.tmp 52) = .bool true := hv 11 (by kernel_rfl)
    exact Gy.step_move rfl (Gy.wanted_none rfl) e52 hJ
  · intro a w hs hJ hv
    have e0 : a.eval (.tmp 0) = .slice A0 n c0 := hs.at_other 0 (by kernel_rfl)
    exact Gy.step_move rfl (Gy.wanted_some (g := 12) (b := true) rfl (hv 12 (by kernel_rfl))) e0 hJ
  · intro a w hs hJ hv
    have e2 : a.eval (.tmp 2) = .int .u8 c := hs.at_other 2 (by kernel_rfl)
    exact Gy.step_move rfl (Gy.wanted_some (g := 12) (b := true) rfl (hv 12 (by kernel_rfl))) e2 hJ
  · intro a w hs hJ hv
    have e54 : a.eval (.tmp 54) = .slice A0 n c0 := hv 13 (by kernel_rfl)
    have e55 : a.eval (.tmp 55) = .int .u8 c := hv 14 (by kernel_rfl)
    refine Gy.step_call (args := #[.slice A0 n c0, .int .u8 c]) (Gy.wanted_some (g := 12) (b := true) rfl (hv 12 (by kernel_rfl))) Tryd.func10 (by kernel_rfl) (by kernel_rfl) rfl (by simp only [List.map_toArray, List.map_cons, List.map_nil, e54, e55]) ?_
    exact (HC.out w (H3.out.trans (hJ.mono H3.out.size))).mono fun e w4 ⟨A4, c4, h1, h2, h3, _⟩ => ⟨_, h1, ⟨A4, c4, rfl, h2⟩, hJ.trans (h3.mono hJ.size), h3⟩
  · intro a w hs hJ hv
    have q56 : ∃ A c, a.eval (.tmp 56) = .slice A n c ∧ ReadsInt w .u8 A n Y := hv 15 (by kernel_rfl)
    obtain ⟨B56, d56, e56, r56⟩ := q56
    have f56 := e56; simp only [Act.eval, Array.getD_eq_getD_getElem?] at f56
    refine Gy.step_same (Gy.wanted_some (g := 12) (b := true) rfl (hv 12 (by kernel_rfl))) (v := .string (strOfNums Y)) ?_ rfl hJ
    have hf := conv_of (c := d56) r56; simp only [execOp, e56]; go_simp
  · intro a w hs hJ hv
    have e0 : a.eval (.tmp 0) = .slice A0 n c0 := hs.at_other 0 (by kernel_rfl)
    exact Gy.step_move rfl (Gy.wanted_some (g := 12) (b := true) rfl (hv 12 (by kernel_rfl))) e0 hJ
  · intro a w hs hJ hv
    have e58 : a.eval (.tmp 58) = .slice A0 n c0 := hv 17 (by kernel_rfl)
    have f58 := e58; simp only [Act.eval, Array.getD_eq_getD_getElem?] at f58
    refine Gy.step_same (Gy.wanted_some (g := 12) (b := true) rfl (hv 12 (by kernel_rfl))) (v := .int .i64 n) ?_ rfl hJ
    simp only [execOp, e58]; go_simp
  · intro a w hs hJ hv
    have e59 : a.eval (.tmp 59) = .int .i64 n := hv 18 (by kernel_rfl)
    have f59 := e59; simp only [Act.eval, Array.getD_eq_getD_getElem?] at f59
    refine Gy.step_value (Gy.wanted_some (g := 12) (b := true) rfl (hv 12 (by kernel_rfl))) (v := .slice (some ⟨w.heap.size, 0, none⟩) n n) (w1 := w.alloc (.cells (madeCells #[.int .u8 0] n) 5)) ?_ ⟨_, rfl, Gy.made_reads w _ n HN.out⟩ (hJ.trans ((Gy.alloc_below w _).mono hJ.size)) (Gy.alloc_below w _)
    have hf := hm; simp only [execOp, e59]; go_simp
  · intro a w hs hJ hv
    have e0 : a.eval (.tmp 0) = .slice A0 n c0 := hs.at_other 0 (by kernel_rfl)
    exact Gy.step_move rfl (Gy.wanted_some (g := 12) (b := true) rfl (hv 12 (by kernel_rfl))) e0 hJ
  · intro a w hs hJ hv
    have e2 : a.eval (.tmp 2) = .int .u8 c := hs.at_other 2 (by kernel_rfl)
    exact Gy.step_move rfl (Gy.wanted_some (g := 12) (b := true) rfl (hv 12 (by kernel_rfl))) e2 hJ
  · intro a w hs hJ hv
    have q60 : ∃ g, a.eval (.tmp 60) = .slice (some ⟨g, 0, none⟩) n n ∧ ReadsInt w .u8 (some ⟨g, 0, none⟩) n (List.replicate n 0) := hv 19 (by kernel_rfl)
    obtain ⟨B60, e60, r60⟩ := q60
    have e61 : a.eval (.tmp 61) = .slice A0 n c0 := hv 20 (by kernel_rfl)
    have e62 : a.eval (.tmp 62) = .int .u8 c := hv 21 (by kernel_rfl)
    refine Gy.step_call (args := #[.slice (some ⟨B60, 0, none⟩) n n, .slice A0 n c0, .int .u8 c]) (Gy.wanted_some (g := 12) (b := true) rfl (hv 12 (by kernel_rfl))) Tryd.func9 (by kernel_rfl) (by kernel_rfl) rfl (by simp only [List.map_toArray, List.map_cons, List.map_nil, e60, e61, e62]) ?_
    exact (HZ.out w _ (H3.out.trans (hJ.mono H3.out.size)) r60).mono fun e w4 ⟨A4, c4, h1, h2, h3, _⟩ => ⟨_, h1, ⟨A4, c4, rfl, h2⟩, hJ.trans (h3.mono hJ.size), h3⟩
  · intro a w hs hJ hv
    have q63 : ∃ A c, a.eval (.tmp 63) = .slice A n c ∧ ReadsInt w .u8 A n Y := hv 22 (by kernel_rfl)
    obtain ⟨B63, d63, e63, r63⟩ := q63
    have f63 := e63; simp only [Act.eval, Array.getD_eq_getD_getElem?] at f63
    refine Gy.step_same (Gy.wanted_some (g := 12) (b := true) rfl (hv 12 (by kernel_rfl))) (v := .string (strOfNums Y)) ?_ rfl hJ
    have hf := conv_of (c := d63) r63; simp only [execOp, e63]; go_simp
  · intro a w hs hJ hv
    have e57 : a.eval (.tmp 57) = .string (strOfNums Y) := hv 16 (by kernel_rfl)
    have e64 : a.eval (.tmp 64) = .string (strOfNums Y) := hv 23 (by kernel_rfl)
    have f57 := e57; simp only [Act.eval, Array.getD_eq_getD_getElem?] at f57
    have f64 := e64; simp only [Act.eval, Array.getD_eq_getD_getElem?] at f64
    refine Gy.step_same (Gy.wanted_some (g := 12) (b := true) rfl (hv 12 (by kernel_rfl))) (v := .bool true) ?_ rfl hJ
    simp only [execOp, e57, e64]; go_simp
  · intro a w hs hJ hv
    have e53 : a.eval (.tmp 53) = .bool true := hv 12 (by kernel_rfl)
    have e65 : a.eval (.tmp 65) = .bool true := hv 24 (by kernel_rfl)
    exact Gy.step_pick (b := true) rfl (Gy.wanted_none rfl) e53 e65 hJ
  · intro a w hs hJ hv
    have e66 : a.eval (.tmp 66) = .bool true := hv 25 (by kernel_rfl)
    exact Gy.step_assign rfl (Gy.wanted_none rfl) e66 hJ
  · intro a w hs hJ hv
    have e6 : a.eval (.tmp 6) = .bool true := hv 26 (by decide)
    have HJ := Lib.hid hJ
    go_wp2
    exact bodyPost_ret (results_tmp rfl _ _ _) hs.defers ⟨congrArg Ending.returned e6, H3.out.trans (HJ.out.mono H3.out.size)⟩
theorem adds (A0 : Option Addr) (c0 : Nat) (a : List Int) (A1 : Option Addr) (c1 : Nat) (b : List Int) (c : Int) (W : World) (hC0 : (Kd.int .u8).C W A0 a.length a) (hl0 : a.length ≤ c0) (hg0 : a.length ≤ 9223372036854775807 ∧ ∀ x ∈ a, (Lit.int .u8 x).wf = true)
    (hC1 : (Kd.int .u8).C W A1 b.length b) (hl1 : b.length ≤ c1) (hg1 : b.length ≤ 9223372036854775807 ∧ ∀ x ∈ b, (Lit.int .u8 x).wf = true) (w2 : (Lit.int .u8 c).wf = true) :
    Calls Tryd.prog 3 #[.slice A0 a.length c0, .slice A1 b.length c1, .int .u8 c] W fun e w' => e = .returned (.bool true) ∧ Below W.heap.size W w' := by
  by_cases h : 5000 < a.length ∨ 5000 < b.length
  · exact adds_far A0 c0 _ A1 c1 _ c W h
  · by_cases hne : a.length ≠ b.length
    · exact adds_apart A0 c0 _ A1 c1 _ c W (by omega) (by omega) hne
    · obtain ⟨cn, rfl⟩ : ∃ m : Nat, c = (m : Int) := ⟨c.toNat, by have := OpenB.u8_wf w2; omega⟩
      have hl : b.length = a.length := by omega
      have h1 := Gy.reads_of_kd hC1
      rw [hl] at h1 hl1 ⊢
      exact adds_same A0 c0 A1 c1 a.length cn a b W (Gy.reads_of_kd hC0) h1 hl0 hl1 (fun x hx => OpenB.u8_wf (hg0.2 x hx)) (fun x hx => OpenB.u8_wf (hg1.2 x hx)) (by have := OpenB.u8_wf w2; omega) (by omega)
end Go.Proofs.YtcmigmldecacpaaDoor.Vec
