/- ReplayBoards: a slot is added. -/
import Derived.Test.YtcmigmldecacpaaOwnBoardsA
import Derived.Test.YtcmigmldecacpaaBoardMore
namespace Go.Proofs.Ytcmigmldecacpaa.Vec
open Go Go.RowKit Go.Proofs.YtcmigmldecacpaaW.PrintWords Go.Proofs.YtcmigmldecacpaaW.PrintMore

theorem reads_eq2 {w : World} {k : IntKind} {A : Option Addr} {n : Nat} {a b : List Int} (h : a = b) (hr : ReadsInt w k A n a) : ReadsInt w k A n b := h ▸ hr
theorem Brd.addIn {base : Nat} {w : World} {g : Nat} {rows : List (List Int)} (h : Brd base w g rows) (z y c n : Nat) (hz : z < rows.length) (hy : y < rows.length) (hzy : z ≠ y) (hn : rows[z].length = n) (hn2 : rows[y].length = n) (hl : n ≤ 100) (hby : By rows[z]) (hby2 : By rows[y]) (hc : c < 256) :
    Calls Try.prog 18 #[.pointer (some ⟨g, 0, none⟩), .int .i64 (z : Int), .int .i64 (y : Int), .int .u8 c] w fun e w' => e = .returned (.int .i64 0) ∧ Brd base w' g (rows.set z (plusL rows[z] rows[y] c)) ∧ Below base w w' := by
  obtain ⟨hv, ks, h⟩ := h
  exact add_in base g hv ks rows z y c n w h hz hy hzy hn hn2 (by omega) hby hby2 hc
set_option maxHeartbeats 16000000 in
set_option maxRecDepth 100000 in
theorem boards_add (A0 : Option Addr) (c0 : Nat) (l : List (List Int)) (n z y : Nat) (c : Nat) (W : World) (hS : Same W A0 c0 l n) (hz : z < l.length) (hy : y < l.length) (hzy : z ≠ y) (hc : c < 256) :
    Calls Try.prog 3 #[.slice A0 l.length c0, .int .i64 (z : Int), .int .i64 (y : Int), .int .u8 c, .bool false] W fun e w' => e = .returned (.bool true) ∧ Below W.heap.size W w' := by
  have HS := Lib.hid hS
  have d1 : decide ((0 : Int) ≤ (z : Int)) = true := by simp
  have d2 : decide ((z : Int) < (l.length : Int)) = true := by simp; omega
  have d2n : decide (z < l.length) = true := by simp; omega
  have d3 : decide ((0 : Int) ≤ (y : Int)) = true := by simp
  have d4 : decide ((y : Int) < (l.length : Int)) = true := by simp; omega
  have d4n : decide (y < l.length) = true := by simp; omega
  have d5 : ((z : Int) == (y : Int)) = false := by simp; omega
  have d5n : (z == y) = false := by simp; exact hzy
  have d6 : ((z : Int) != (y : Int)) = true := by simp; omega
  have d6n : (z != y) = true := by simp; exact hzy
  have ty : (y : Int) < (l.length : Int) := by omega
  have ty0 : (0 : Int) ≤ (y : Int) := by omega
  have HC := Lib.hid hc
  have HZ := Lib.hid (And.intro hz hy)
  obtain ⟨X, hX⟩ : ∃ X, X = plusL l[z] l[y] c := ⟨_, rfl⟩
  have HX0 := Lib.hid hX
  have HXL := Lib.hid (show X.length = n by rw [hX, plusL_length (by rw [hS.same z hz, hS.same y hy])]; exact hS.same z hz)
  obtain ⟨R, hR⟩ : ∃ R, R = l.set z X := ⟨_, rfl⟩
  have hlenR : R.length = l.length := by rw [hR, List.length_set]
  have HLEN := Lib.hid hlenR
  have HRL := Lib.hid (show (R.length : Int) ≤ (l.length : Int) by rw [hlenR]; exact Int.le_refl _)
  have HRZ := Lib.hid (show ∀ (h : z < R.length), R[z] = X by subst hR; intro h; exact List.getElem_set_self h)
  have HRN := Lib.hid (show ∀ (j : Nat) (h : j < R.length) (_h2 : j < l.length), j ≠ z → R[j] = l[j] by subst hR; intro j h _ hne; exact List.getElem_set_ne (fun e => hne e.symm) h)
  have hsc : ∀ (w : World) (g : Nat), Brd g w g l → Calls Try.prog 18 #[.pointer (some ⟨g, 0, none⟩), .int .i64 (z : Int), .int .i64 (y : Int), .int .u8 c] w fun e w' => e = .returned (.int .i64 0) ∧ Brd g w' g R ∧ Below g w w' := fun w g h => by
    rw [hR, hX]; exact h.addIn z y c n hz hy hzy (hS.same z hz) (hS.same y hy) hS.n100 (hS.by_ z hz) (hS.by_ y hy) hc
  have HSC := Lib.hid hsc
  clear hS hc hX hsc hR hlenR
  go_enter Try.func3, Try.ntmps3
  go_wp2_with (first
    | (go_at_call 13; first | (with_reducible refine (awakeC H2.out).mono ?_; rintro e w3 ⟨rfl, e1⟩; have H3 := Lib.hid e1; clear e1) | (with_reducible refine (awakeC (Below.refl _ W)).mono ?_; rintro e w1 ⟨rfl, e1⟩; have H1 := Lib.hid e1; clear e1))
    | (go_at_call 14; (with_reducible refine (HS.out.fewC H1.out).mono ?_); rintro e w2 ⟨⟨r, rfl⟩, e1⟩; have H2 := Lib.hid e1; clear e1; cases r)
    | (go_at_call 15; (with_reducible refine (HS.out.board H2.out).mono ?_); rintro e w3 ⟨g, rfl, e1, e2, e3⟩; have H3 := Lib.hid (And.intro e1 (And.intro e2 e3)); clear e1 e2 e3)
    | (go_at_call 16; (with_reducible refine (HS.out.alikeC H3.out.2.1).mono ?_); rintro e w4 ⟨rfl, e1, e2⟩; have H4 := Lib.hid (And.intro (H3.out.1.below e1) e2); clear e1 e2)
    | (go_at_call 18; (with_reducible refine (HSC.out _ _ H4.out.1).mono ?_); rintro e w5 ⟨rfl, e1, e2⟩; have H5 := Lib.hid (And.intro e1 (H4.out.2.trans (e2.mono H3.out.2.2))); clear e1 e2)
    | (go_at_call 19; (with_reducible refine (H5.out.1.outC _ (.inr HRL.out)).mono ?_); rintro e w6 ⟨rfl, rfl⟩)
    | (go_at_call 19; (with_reducible refine (H5.out.1.outC _ (.inl (by decide))).mono ?_); rintro e w6 ⟨rfl, rfl⟩))
  · go_ret
    exact ⟨rfl, H3.out⟩
  · go_loopw [106] (fun v106 wr => ∃ i : Nat, i ≤ l.length ∧ v106 = .int .i64 (i : Int) ∧ Gy.Hd (Brd g wr g R ∧ Below W.heap.size W wr)) (fun v106 _ => l.length - (intOf v106).toNat)
    case atStart => exact ⟨0, Nat.zero_le _, rfl, ⟨H5.out⟩⟩
    case round =>
      obtain ⟨i, hi, rfl, hx⟩ := hrel
      by_cases hin : i < l.length
      · have t3 := j_lt hin
        obtain ⟨ad, Av, cv, rfl, kv, lv, rv⟩ := HS.out.val hx.out.2 i hin
        have hwj := up_wrap hin (by have := HS.out.few; omega)
        have HWJ := Lib.hid hwj
        have hend := end_row hin
        have HJ := Lib.hid hin
        have hil : i < R.length := by rw [HLEN.out]; exact hin
        have HIL := Lib.hid hil
        by_cases hiz : i = z
        · subst hiz
          have hri : R[i]'hil = X := HRZ.out hil
          have HRI := Lib.hid hri
          obtain ⟨ad2, Ay, cy, e9, ky, ly, ry⟩ := HS.out.val hx.out.2 y HZ.out.2
          injection e9 with e9
          subst e9
          have HRV := Lib.hid (And.intro rv ry)
          have H9 := Lib.hid HX0.out.symm
          have HXX := Lib.hid (And.intro hx.out.1 hx.out.2)
          have LV := Lib.hid (And.intro lv ly)
          clear rv lv hx hri ly ry
          go_wp2_with (go_at_call 20; (with_reducible refine (plus_calls _ cv _ cy n c (l[i]'HJ.out) (l[y]'HZ.out.2) _ HRV.out.1 HRV.out.2 LV.out.1 LV.out.2 (HS.out.by_ i HJ.out) (HS.out.by_ y HZ.out.2) HC.out (by have := HS.out.n100; omega)).mono ?_); rintro e w6 ⟨A6, c6, rfl, e1, e2⟩; rw [H9.out] at e1; have H6 := Lib.hid (And.intro (HXX.out.1.below e2) (And.intro (HXX.out.2.trans (e2.mono HXX.out.2.size)) e1)); clear e1 e2)
          have HX := Lib.hid (And.intro (H6.out.1.below (Gy.drew_below _)) (H6.out.2.1.trans ((Gy.drew_below _).mono H6.out.2.1.size)))
          have s6 := string_of_reads (P := Try.prog) (c := c6) Try.underlying31 Try.underlying5 Try.underlying9 (Gy.reads_below H6.out.2.2 (Gy.drew_below _))
          go_region_with (first | (go_at_call 19; (with_reducible refine (HX.out.1.inC i HIL.out n ((congrArg List.length HRI.out).trans HXL.out) HS.out.n100).mono ?_); rintro e w7 ⟨A5, c5, rfl, e1, e2⟩; replace e1 := reads_eq2 HRI.out e1; have s7 := string_of_reads (P := Try.prog) (c := c5) Try.underlying31 Try.underlying5 Try.underlying9 e1; have s8 := string_of_reads (P := Try.prog) (c := c6) Try.underlying31 Try.underlying5 Try.underlying9 (Gy.reads_below H6.out.2.2 ((Gy.drew_below _).trans (e2.mono (Gy.drew_below _).size))); have H7 := Lib.hid (And.intro (HX.out.1.below e2) (HX.out.2.trans (e2.mono HX.out.2.size))); clear e1 e2))
          all_goals
            go_wp2
            rw [HWJ.out]
            exact ⟨⟨i + 1, HJ.out, by norm_cast, ⟨H7.out⟩⟩, hend⟩
        · have q1 : ((i : Int) == (z : Int)) = false := by simp; omega
          have q2 : (i == z) = false := by simp; exact hiz
          have hri : R[i]'hil = l[i]'hin := HRN.out i hil hin hiz
          have hrl : (R[i]'hil).length = n := (congrArg List.length hri).trans (HS.out.same i hin)
          have HRI := Lib.hid (And.intro hri hrl)
          have s6 := string_of_reads (P := Try.prog) (c := cv) Try.underlying31 Try.underlying5 Try.underlying9 (Gy.reads_below rv (Gy.drew_below _))
          have HRV := Lib.hid rv
          have HX := Lib.hid (And.intro (hx.out.1.below (Gy.drew_below _)) (hx.out.2.trans ((Gy.drew_below _).mono hx.out.2.size)))
          clear rv lv hx hri hrl
          go_wp2
          go_region_with (first | (go_at_call 19; (with_reducible refine (HX.out.1.inC i HIL.out n HRI.out.2 HS.out.n100).mono ?_); rintro e w7 ⟨A5, c5, rfl, e1, e2⟩; replace e1 := reads_eq2 HRI.out.1 e1; have s7 := string_of_reads (P := Try.prog) (c := c5) Try.underlying31 Try.underlying5 Try.underlying9 e1; have s8 := string_of_reads (P := Try.prog) (c := cv) Try.underlying31 Try.underlying5 Try.underlying9 (Gy.reads_below HRV.out ((Gy.drew_below _).trans (e2.mono (Gy.drew_below _).size))); have H7 := Lib.hid (And.intro (HX.out.1.below e2) (HX.out.2.trans (e2.mono HX.out.2.size))); clear e1 e2))
          all_goals
            go_wp2
            rw [HWJ.out]
            exact ⟨⟨i + 1, HJ.out, by norm_cast, ⟨H7.out⟩⟩, hend⟩
      · obtain rfl : i = l.length := Nat.le_antisymm hi (Nat.le_of_not_lt hin)
        have t3 : decide ((l.length : Int) < (l.length : Int)) = false := by simp
        have HX := Lib.hid hx.out.2
        clear hx
        go_wp2_with (first
          | (go_at_call 18; (with_reducible refine (add_nil _ _ _ _).mono ?_); rintro e w5 ⟨rfl, rfl⟩)
          | (go_at_call 17; (with_reducible refine (scale_nil _ _ _).mono ?_); rintro e w5 ⟨rfl, rfl⟩)
          | (go_at_call 19; (with_reducible refine (slot_nil _ _).mono ?_); rintro e w5 ⟨rfl, rfl⟩))
        go_ret
        exact ⟨rfl, HX.out⟩
end Go.Proofs.Ytcmigmldecacpaa.Vec
