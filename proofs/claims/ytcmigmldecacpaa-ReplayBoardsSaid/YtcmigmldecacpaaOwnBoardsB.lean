/- ReplayBoards: a slot is scaled. -/
import Derived.Test.YtcmigmldecacpaaOwnBoardsA
namespace Go.Proofs.Ytcmigmldecacpaa.Vec
open Go Go.RowKit Go.Proofs.YtcmigmldecacpaaW.PrintWords Go.Proofs.YtcmigmldecacpaaW.PrintMore

theorem reads_eq {w : World} {k : IntKind} {A : Option Addr} {n : Nat} {a b : List Int} (h : a = b) (hr : ReadsInt w k A n a) : ReadsInt w k A n b := h ▸ hr
theorem plus_zeros {a : List Int} {n : Nat} (h : a.length = n) (c : Nat) : plusL (List.replicate n 0) a c = scaleL a c := by
  subst h
  unfold plusL scaleL
  apply List.ext_getElem
  · simp
  · intro i h1 h2
    simp only [List.getElem_zipWith, List.getElem_replicate]
    unfold addI mulI
    simp
theorem zeros_by (n : Nat) : By (List.replicate n 0) := by
  intro x hx
  have := List.eq_of_mem_replicate hx
  omega
theorem Brd.scaleIn {base : Nat} {w : World} {g : Nat} {rows : List (List Int)} (h : Brd base w g rows) (z c n : Nat) (hz : z < rows.length) (hn : rows[z].length = n) (hl : n ≤ 100) (hby : By rows[z]) (hc : c < 256) :
    Calls Try.prog 17 #[.pointer (some ⟨g, 0, none⟩), .int .i64 (z : Int), .int .u8 c] w fun e w' => e = .returned (.int .i64 0) ∧ Brd base w' g (rows.set z (scaleL rows[z] c)) ∧ Below base w w' := by
  obtain ⟨hv, ks, h⟩ := h
  exact scale_in base g hv ks rows z c w h hz (by omega) hby hc
set_option maxHeartbeats 16000000 in
set_option maxRecDepth 100000 in
theorem boards_scale (A0 : Option Addr) (c0 : Nat) (l : List (List Int)) (n z : Nat) (fr : Int) (c : Nat) (W : World) (hS : Same W A0 c0 l n) (hz : z < l.length) (hc : c < 256) :
    Calls Try.prog 3 #[.slice A0 l.length c0, .int .i64 (z : Int), .int .i64 fr, .int .u8 c, .bool true] W fun e w' => e = .returned (.bool true) ∧ Below W.heap.size W w' := by
  have HS := Lib.hid hS
  have d1 : decide ((0 : Int) ≤ (z : Int)) = true := by simp
  have d2 : decide ((z : Int) < (l.length : Int)) = true := by simp; omega
  have d2n : decide (z < l.length) = true := by simp; omega
  have hm := print_make (P := Try.prog) 31 5 .u8 1 Try.underlying31 info_u8 (by decide) n (by have := hS.n100; omega)
  have HC := Lib.hid hc
  have HZ := Lib.hid hz
  obtain ⟨X, hX⟩ : ∃ X, X = scaleL l[z] c := ⟨_, rfl⟩
  have HX0 := Lib.hid hX
  have HXL := Lib.hid (show X.length = n by rw [hX, scaleL_length]; exact hS.same z hz)
  obtain ⟨R, hR⟩ : ∃ R, R = l.set z X := ⟨_, rfl⟩
  have hlenR : R.length = l.length := by rw [hR, List.length_set]
  have HLEN := Lib.hid hlenR
  have HRL := Lib.hid (show (R.length : Int) ≤ (l.length : Int) by rw [hlenR]; exact Int.le_refl _)
  have HRZ := Lib.hid (show ∀ (h : z < R.length), R[z] = X by subst hR; intro h; exact List.getElem_set_self h)
  have HRN := Lib.hid (show ∀ (j : Nat) (h : j < R.length) (_h2 : j < l.length), j ≠ z → R[j] = l[j] by subst hR; intro j h _ hne; exact List.getElem_set_ne (fun e => hne e.symm) h)
  have hsc : ∀ (w : World) (g : Nat), Brd g w g l → Calls Try.prog 17 #[.pointer (some ⟨g, 0, none⟩), .int .i64 (z : Int), .int .u8 c] w fun e w' => e = .returned (.int .i64 0) ∧ Brd g w' g R ∧ Below g w w' := fun w g h => by
    rw [hR, hX]; exact h.scaleIn z c n hz (hS.same z hz) hS.n100 (hS.by_ z hz) hc
  have HSC := Lib.hid hsc
  clear hS hc hX hsc hR hlenR
  go_enter Try.func3, Try.ntmps3
  go_wp2_with (first
    | (go_at_call 13; first | (with_reducible refine (awakeC H2.out).mono ?_; rintro e w3 ⟨rfl, e1⟩; have H3 := Lib.hid e1; clear e1) | (with_reducible refine (awakeC (Below.refl _ W)).mono ?_; rintro e w1 ⟨rfl, e1⟩; have H1 := Lib.hid e1; clear e1))
    | (go_at_call 14; (with_reducible refine (HS.out.fewC H1.out).mono ?_); rintro e w2 ⟨⟨r, rfl⟩, e1⟩; have H2 := Lib.hid e1; clear e1; cases r)
    | (go_at_call 15; (with_reducible refine (HS.out.board H2.out).mono ?_); rintro e w3 ⟨g, rfl, e1, e2, e3⟩; have H3 := Lib.hid (And.intro e1 (And.intro e2 e3)); clear e1 e2 e3)
    | (go_at_call 16; (with_reducible refine (HS.out.alikeC H3.out.2.1).mono ?_); rintro e w4 ⟨rfl, e1, e2⟩; have H4 := Lib.hid (And.intro (H3.out.1.below e1) e2); clear e1 e2)
    | (go_at_call 17; (with_reducible refine (HSC.out _ _ H4.out.1).mono ?_); rintro e w5 ⟨rfl, e1, e2⟩; have H5 := Lib.hid (And.intro e1 (H4.out.2.trans (e2.mono H3.out.2.2))); clear e1 e2)
    | (go_at_call 19; (with_reducible refine (H5.out.1.outC _ (.inr HRL.out)).mono ?_); rintro e w6 ⟨rfl, rfl⟩)
    | (go_at_call 19; (with_reducible refine (H5.out.1.outC _ (.inl (by decide))).mono ?_); rintro e w6 ⟨rfl, rfl⟩))
  · go_ret
    exact ⟨rfl, H3.out⟩
  · go_loopw [106] (fun v106 wr => ∃ i : Nat, i ≤ l.length ∧ v106 = .int .i64 (i : Int) ∧ Gy.Hd (Brd g wr g R ∧ Below W.heap.size W wr)) (fun v106 _ => l.length - (intOf v106).toNat)
    case atStart => exact ⟨0, Nat.zero_le _, rfl, ⟨H5.out⟩⟩
    case round =>
      obtain ⟨i, hi, rfl, hx⟩ := hrel
      by_cases hin : i < l.length
      · have t3 := j_lt hin
        obtain ⟨ad, Av, cv, rfl, kv, lv, rv⟩ := HS.out.val hx.out.2 i hin
        have hwj := up_wrap hin (by have := HS.out.few; omega)
        have HWJ := Lib.hid hwj
        have hend := end_row hin
        have HJ := Lib.hid hin
        have hil : i < R.length := by rw [HLEN.out]; exact hin
        have HIL := Lib.hid hil
        by_cases hiz : i = z
        · subst hiz
          have hri : R[i]'hil = X := HRZ.out hil
          have HRI := Lib.hid hri
          have HRV := Lib.hid rv
          have HXX := Lib.hid (And.intro hx.out.1 hx.out.2)
          have LV := Lib.hid lv
          have H9 := Lib.hid ((plus_zeros (HS.out.same i hin) c).trans HX0.out.symm)
          clear rv lv hx hri
          go_wp2_with (go_at_call 20; (with_reducible refine (plus_calls _ n _ cv n c (List.replicate n 0) (l[i]'HJ.out) _ (Gy.made_reads _ _ n (by have := HS.out.n100; omega)) (Gy.reads_below HRV.out (Gy.alloc_below _ _)) (Nat.le_refl n) LV.out (zeros_by n) (HS.out.by_ i HJ.out) HC.out (by have := HS.out.n100; omega)).mono ?_); rintro e w6 ⟨A6, c6, rfl, e1, e2⟩; rw [H9.out] at e1; have H6 := Lib.hid (And.intro (HXX.out.1.below ((Gy.alloc_below _ _).trans (e2.mono (Gy.alloc_below _ _).size))) (And.intro (HXX.out.2.trans (((Gy.alloc_below _ _).trans (e2.mono (Gy.alloc_below _ _).size)).mono HXX.out.2.size)) e1)); clear e1 e2)
          have HX := Lib.hid (And.intro (H6.out.1.below (Gy.drew_below _)) (H6.out.2.1.trans ((Gy.drew_below _).mono H6.out.2.1.size)))
          have s6 := string_of_reads (P := Try.prog) (c := c6) Try.underlying31 Try.underlying5 Try.underlying9 (Gy.reads_below H6.out.2.2 (Gy.drew_below _))
          go_region_with (first | (go_at_call 19; (with_reducible refine (HX.out.1.inC i HIL.out n ((congrArg List.length HRI.out).trans HXL.out) HS.out.n100).mono ?_); rintro e w7 ⟨A5, c5, rfl, e1, e2⟩; replace e1 := reads_eq HRI.out e1; have s7 := string_of_reads (P := Try.prog) (c := c5) Try.underlying31 Try.underlying5 Try.underlying9 e1; have s8 := string_of_reads (P := Try.prog) (c := c6) Try.underlying31 Try.underlying5 Try.underlying9 (Gy.reads_below H6.out.2.2 ((Gy.drew_below _).trans (e2.mono (Gy.drew_below _).size))); have H7 := Lib.hid (And.intro (HX.out.1.below e2) (HX.out.2.trans (e2.mono HX.out.2.size))); clear e1 e2))
          all_goals
            go_wp2
            rw [HWJ.out]
            exact ⟨⟨i + 1, HJ.out, by norm_cast, ⟨H7.out⟩⟩, hend⟩
        · have q1 : ((i : Int) == (z : Int)) = false := by simp; omega
          have q2 : (i == z) = false := by simp; exact hiz
          have hri : R[i]'hil = l[i]'hin := HRN.out i hil hin hiz
          have hrl : (R[i]'hil).length = n := (congrArg List.length hri).trans (HS.out.same i hin)
          have HRI := Lib.hid (And.intro hri hrl)
          have s6 := string_of_reads (P := Try.prog) (c := cv) Try.underlying31 Try.underlying5 Try.underlying9 (Gy.reads_below rv (Gy.drew_below _))
          have HRV := Lib.hid rv
          have HX := Lib.hid (And.intro (hx.out.1.below (Gy.drew_below _)) (hx.out.2.trans ((Gy.drew_below _).mono hx.out.2.size)))
          clear rv lv hx hri hrl
          go_wp2
          go_region_with (first | (go_at_call 19; (with_reducible refine (HX.out.1.inC i HIL.out n HRI.out.2 HS.out.n100).mono ?_); rintro e w7 ⟨A5, c5, rfl, e1, e2⟩; replace e1 := reads_eq HRI.out.1 e1; have s7 := string_of_reads (P := Try.prog) (c := c5) Try.underlying31 Try.underlying5 Try.underlying9 e1; have s8 := string_of_reads (P := Try.prog) (c := cv) Try.underlying31 Try.underlying5 Try.underlying9 (Gy.reads_below HRV.out ((Gy.drew_below _).trans (e2.mono (Gy.drew_below _).size))); have H7 := Lib.hid (And.intro (HX.out.1.below e2) (HX.out.2.trans (e2.mono HX.out.2.size))); clear e1 e2))
          all_goals
            go_wp2
            rw [HWJ.out]
            exact ⟨⟨i + 1, HJ.out, by norm_cast, ⟨H7.out⟩⟩, hend⟩
      · obtain rfl : i = l.length := Nat.le_antisymm hi (Nat.le_of_not_lt hin)
        have t3 : decide ((l.length : Int) < (l.length : Int)) = false := by simp
        have HX := Lib.hid hx.out.2
        clear hx
        go_wp2_with (first
          | (go_at_call 18; (with_reducible refine (add_nil _ _ _ _).mono ?_); rintro e w5 ⟨rfl, rfl⟩)
          | (go_at_call 17; (with_reducible refine (scale_nil _ _ _).mono ?_); rintro e w5 ⟨rfl, rfl⟩)
          | (go_at_call 19; (with_reducible refine (slot_nil _ _).mono ?_); rintro e w5 ⟨rfl, rfl⟩))
        go_ret
        exact ⟨rfl, HX.out⟩
end Go.Proofs.Ytcmigmldecacpaa.Vec
